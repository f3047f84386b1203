/- A part of the proof of what LawWholeReaders says. -/
import Derived.Test.YtooinenkenobaaaGreatAa
import Derived.Test.YtooinenkenobaaaGreatBl
set_option maxRecDepth 100000
set_option maxHeartbeats 20000000
namespace Go.Proofs.YtooinenkenobaaaGreat
open Option renaming none->ae,some->ag
open Bool renaming false->ah,true->aj
open Go.Proofs.Tryz renaming prog->ax
open Go.Value renaming int->ay,pointer->aA,slice->aB,bool->aC,float->aD
open Go.IntKind renaming i64->az
open Go.FloatKind renaming f64->aE
open Go.Ending renaming returned->aF
open Go.Obj renaming cells->aG
open Go renaming World->am,Value->ar,TypeId->au,Calls->aw
section
open Go.RowKit Go.Maps
theorem Cu{s:ByteArray}(h:kK s=aj):keyOf ax 9 (.string s)=ag (fS s):=by
 refine WideMaps.keyOf_string_mk Tryz.underlying9 ?_
 unfold kK at h
 simp only[co,dH]at h
 have:=h.1.1.1.2
 unfold maxLen;omega
theorem sJ(s:ByteArray)(p:Option Addr)(a n:Nat)(g:Lit->Option ar){w:am}(d:kK s=aj)(M:fL w 9 a n g)(c:n<1000):
 aw ax 341 #[.agg #[.string s,aA p],.map (ag a)] w λe w'=>e=aF (.tuple #[])/\fL w' 9 a (n+1) (fU g (fS s) (aA p))/\iD (·=a) w w':=by
 have f:=aH d
 have b:=aY w (aG #[.string s,aA p] 323)
 have i:=M.pW (S:=λ_=>False) (iD.bh b) (λh=>h)
 have Z:=aH c
 clear d c
 go_in
 go_wp2_with (first
  | (at_mapUpdate;refine jK rfl 135 rfl 9 174 sY Tryz.underlying135 a n g rfl i (by have:=Z.out;omega) _ rfl rfl (Cu f.out) trivial ?_)
  | go_in)
 intro m j k
 go_wp2_with fail
 go_end0
 exact⟨rfl,j,(iD.bh b).grown k (λq l=>by cases l;exact .inl rfl)⟩
theorem sI(s u:ByteArray)(a n:Nat)(g:Lit->Option ar){w:am}(c:kK s=aj)(j:kK u=aj)(M:fL w 9 a n g)(i:n<1000):
 aw ax 339 #[.agg #[.string s,.string u],.map (ag a)] w λe w'=>e=aF (.tuple #[])/\fL w' 9 a (n+1) (fU (oD g (fS s)) (fS u) ((g (fS s)).getD (aA ae)))/\iD (·=a) w w':=by
 have o:=aH c
 have p:=aH j
 have f:=aY w (aG #[.string s,.string u] 318)
 have d:=M.pW (S:=λ_=>False) (iD.bh f) (λh=>h)
 have Z:=aH i
 have x:=d.look sY Tryz.underlying135 (vE _) (Cu c) trivial
 obtain⟨v,k⟩:=bP ((g (fS s)).getD (aA ae))
 rw[k]at x ⊢
 clear c j i k
 go_in
 go_wp2_with (first
  | (at_delete;refine mL rfl 135 9 rfl 174 sY Tryz.underlying135 a n g rfl d rfl (Cu o.out) ?_)
  | go_in)
 intro z r m
 have A:z.cell? ⟨w.heap.size,1,ae⟩=ag (.string u):=by
  have l:=bp w (aG #[.string s,.string u] 318)
  exact aZ 1 ((m.block _ (aT l) (λe=>by injection e with e;have:=M.lt;omega)).trans l)
 go_wp2_with (first
  | (at_mapUpdate;refine jK rfl 135 rfl 9 174 sY Tryz.underlying135 a n _ rfl r (by have:=Z.out;omega) _ rfl rfl (Cu p.out) trivial ?_)
  | go_in)
 intro B t y
 go_wp2_with fail
 go_end0
 exact⟨rfl,t,((iD.bh f).grown m (λq b=>by cases b;exact .inl rfl)).grown y (λq b=>by cases b;exact .inl rfl)⟩
inductive gW where
 | created (s:ByteArray) (p:Option Addr)
 | renamed (s u:ByteArray)
def gW.val:gW->ar
 | .created s p=>.iface 323 (.agg #[.string s,aA p])
 | .renamed s u=>.iface 318 (.agg #[.string s,.string u])
def gW.ok:gW->Prop
 | .created s _=>kK s=aj
 | .renamed s u=>kK s=aj/\kK u=aj
noncomputable def gW.on:gW->(Lit->Option ar)->Lit->Option ar
 | .created s p,g=>fU g (fS s) (aA p)
 | .renamed s u,g=>fU (oD g (fS s)) (fS u) ((g (fS s)).getD (aA ae))
def fH(w:am)(base:Nat)(v:ar)(L:List gW):Prop:=w.ownsRow base 190 1 v L.length (L.map gW.val)
theorem fH.shape{w:am}{base:Nat}{v:ar}{L:List gW}(h:fH w base v L):∃a b,v=aB a L.length b:=by
 have c:w.ownsRow base 190 1 v (L.map gW.val).length (L.map gW.val):=by rw[bZ];exact h
 obtain⟨a,b,e,-⟩:=AW c
 exact⟨a,b,by rw[e,bZ]⟩
theorem Mt{w h j:am}{base a f s n:Nat}{d:zB}{L:List gW}{c:gW}{g:Lit->Option ar}{o:Obj}{b:ar}(C:iD (λq=>q=a\/q=f\/d.fA.ownBlock=ag q) w h)(H:iF h a f s d)(M:fL h 9 f n g)(O:fH h base d.fA L)
 (p:Below h.heap.size h (h.alloc o)) (r:(h.alloc o).grownBy j d.fA.ownBlock) (A:fH j base b (L++[c])):
 ∃m,m.fA=b/\iF (j.setCell ⟨a,5,ae⟩ b) a f s m/\m.most=d.most/\fH (j.setCell ⟨a,5,ae⟩ b) base m.fA (L++[c])/\fL (j.setCell ⟨a,5,ae⟩ b) 9 f n g/\iD (λq=>q=a\/q=f\/d.fA.ownBlock=ag q) w (j.setCell ⟨a,5,ae⟩ b):=by
 have t:∀q,d.fA.ownBlock=ag q->q≠a:=λq i e=>by
  obtain⟨-,k,l⟩:=dq O i
  exact gg H l (by decide) e
 have u:∀q,d.fA.ownBlock=ag q->q≠f:=λq i e=>by
  obtain⟨-,k,l⟩:=dq O i
  exact M.gg l e.symm
 have y:iF j a f s d:=(r.block _ (aT (H.dV p)) (λe=>t _ e.symm rfl)).trans (H.dV p)
 have x:b.ownBlock≠ag a:=λe=>by
  obtain⟨-,k,l⟩:=dq A e
  exact gg y l (by decide) rfl
 refine⟨{ d with fA:=b },rfl,bE y 5 b,rfl,dC A λq i=>bD (λe=>x (e▸i)),?_,?_⟩
 ·have z:fL (h.alloc o) 9 f n g:=M.move (p.block _ M.lt)
  exact(z.move (r.block _ z.lt (λe=>u _ e.symm rfl))).move (bD (M.gg H))
 ·exact(((C.on p).grown r (λq i=>.inl (.inr (.inr i)))).set b (.inl (.inl rfl)))
theorem Tryz.yu:(Tryz.prog.info? 190).map (λi=>(i.zero,i.size,i.bytes))=ag (ag .nilIface,1,16):=by kernel_rfl
theorem ye(s:ByteArray)(p:Option Addr)(w:am):(nilAhead 568 323 (.agg #[.string s,aA p]) "flume/disk.do").run ax w=.ok (ag ah) w:=by kernel_rfl
theorem vP(s:ByteArray)(p:Option Addr)(w:am):(method 568 323 (.agg #[.string s,aA p]) "flume/disk.do").run ax w=.ok (341,.agg #[.string s,aA p]) w:=by kernel_rfl
theorem yd(s u:ByteArray)(w:am):(nilAhead 568 318 (.agg #[.string s,.string u]) "flume/disk.do").run ax w=.ok (ag ah) w:=by kernel_rfl
theorem vO(s u:ByteArray)(w:am):(method 568 318 (.agg #[.string s,.string u]) "flume/disk.do").run ax w=.ok (339,.agg #[.string s,.string u]) w:=by kernel_rfl
theorem Bl(a b x n base:Nat)(d:zB)(c:gW)(G:Bool)(L:List gW)(f:Lit->Option ar)(w:am)(H:Hid (iF w a b x d))(M:fL w 9 b n f)(O:Hid (fH w base d.fA L))(hL:L.length<=100)(hn:n<1000)(hc:c.ok)(HB:Hid (base<=w.heap.size)):
 aw ax 149 #[aA (ag ⟨a,0,ae⟩),jm,.bool G,c.val] w λe w'=>e=aF (ay az 0)/\
  ∃P,iF w' a b x P/\P.most=d.most/\fH w' base P.fA (L++[c])/\fL w' 9 b (n+1) (c.on f)/\iD (λq=>q=a\/q=b\/d.fA.ownBlock=ag q) w w'/\(∀q,P.fA.ownBlock=ag q->d.fA.ownBlock=ag q\/w.heap.size<=q):=by
 have Z:=aH hn
 have ZL:=aH hL
 have x3:∀w',iF w' a b x d->w'.cell? ⟨a,3,ae⟩=ag (.map (ag b)):=λw' h=>h.cell 3
 have X3:=aH x3
 clear hn hL x3
 unfold jm
 have N:=aY w (aG #[ay az 0,ay az 0,ay az 0] 145)
 obtain⟨w1,gv⟩:=bP (w.alloc (aG #[ay az 0,ay az 0,ay az 0] 145))
 have n1:=bp w (aG #[ay az 0,ay az 0,ay az 0] 145)
 rw[gv]at N n1
 have z:=aH N
 have Q:=aH (H.out.dV N)
 have x3:=X3.out _ Q.out
 have e1:w1.cell? ⟨w.heap.size,1,ae⟩=ag (ay az 0):=aZ 1 n1
 clear N n1
 cases c with
 | created s p=>
  simp only[gW.val]
  have na:=ye s p
  have me:=vP s p
  go_in
  go_wp2_with fail
  refine cj 8 (by kernel_rfl) (by kernel_rfl) ?_
  simp only[aJ,aO,aI,aL]
  repeat (go_big_quiet_step (fail))
  refine aU ?_
  intro w2 lU
  obtain⟨nq,rfl⟩:=lU
  go_wp2_with fail
  refine(sJ s p b n f hc (M.pW (S:=λ_=>False) (iD.bh (aM z.out (below_drewN _ nq))) (λh=>h)) Z.out).mono ?_
  rintro e g ⟨rfl,U,k⟩
  have l:=aH (show iD (λq=>q=a\/q=b\/d.fA.ownBlock=ag q) w g from(iD.bh (S:=λq=>q=a\/q=b\/d.fA.ownBlock=ag q) (aM z.out (below_drewN _ nq))).trans k λq _ h=>.inr (.inl h))
  have i:=aH (show iF g a b x d from(Q.out.dV (below_drewN _ nq)).pW k (λh=>M.gg H.out h.symm))
  have B:=aH (show fH g base d.fA L from jH (jH O.out (iD.bh (S:=λ_=>False) (aM z.out (below_drewN _ nq))) (λ_ _ h=>h)) k (λq r h=>by
   obtain⟨-,m,t⟩:=dq O.out r
   exact M.gg t h.symm))
  have x5:g.cell? ⟨a,5,ae⟩=ag d.fA:=i.out.cell 5
  have b4:=aY g (aG #[.iface 323 (.agg #[.string s,aA p])] 190)
  have C:=aH (show fH (g.alloc (aG #[.iface 323 (.agg #[.string s,aA p])] 190)) base d.fA L from jH B.out (iD.bh (S:=λ_=>False) b4) (λ_ _ h=>h))
  have T:=aH (show(L.map gW.val).length<=1000000 by rw[bZ];have:=ZL.out;omega)
  go_wp2_with (refine nK (o:=⟨ag 41,_,_,_,_,_⟩) rfl 136 190 rfl Tryz.underlying136 Tryz.yu rfl (by decide) base (L.map gW.val) rfl (by rw[bZ];exact C.out) ⟨g.heap.size,0,ae⟩ (.iface 323 (.agg #[.string s,aA p])) rfl (cell_one_new _ _ _) rfl T.out (bJ HB.out (bJ l.out.size b4.size)) ?_)
  intro K y E I J
  have A:=aH (show iF y a b x d from(I.block _ (aT (i.out.dV b4)) (λe=>by
   obtain⟨-,m,t⟩:=dq C.out e.symm
   have:=gg (i.out.dV b4) t (by decide)
   exact this rfl)).trans (i.out.dV b4))
  have D:=aH (show fH y base K (L++[.created s p])from by unfold fH;rw[gM,aN];exact E)
  have F:=aH (Mt l.out i.out U B.out b4 I D.out)
  have j:=aH (show ∀q,K.ownBlock=ag q->d.fA.ownBlock=ag q\/w.heap.size<=q from λq r=>by
   rcases J q r with e | e
   ·exact .inl e
   ·exact .inr (by have:=l.out.size;have:=b4.size;omega))
  obtain⟨V,W,rfl⟩:=D.out.shape
  rw[show(L++[gW.created s p]).length=L.length+1 from by simp]at F j ⊢
  clear E J
  have f5:=A.out.free 5
  have aa:y.cell? ⟨a,5,ae⟩=ag d.fA:=A.out.cell 5
  go_wp2_with fail
  go_ret
  obtain⟨X,Y,k1,k2,k3,k4,k5⟩:=F.out
  exact⟨rfl,X,k1,k2,k3,k4,k5,by rw[Y];exact j.out⟩
 | renamed s u=>
  simp only[gW.val]
  have na:=yd s u
  have me:=vO s u
  go_in
  go_wp2_with fail
  refine cj 8 (by kernel_rfl) (by kernel_rfl) ?_
  simp only[aJ,aO,aI,aL]
  repeat (go_big_quiet_step (fail))
  refine aU ?_
  intro w2 lU
  obtain⟨nq,rfl⟩:=lU
  go_wp2_with fail
  refine(sI s u b n f hc.1 hc.2 (M.pW (S:=λ_=>False) (iD.bh (aM z.out (below_drewN _ nq))) (λh=>h)) Z.out).mono ?_
  rintro e g ⟨rfl,U,k⟩
  have l:=aH (show iD (λq=>q=a\/q=b\/d.fA.ownBlock=ag q) w g from(iD.bh (S:=λq=>q=a\/q=b\/d.fA.ownBlock=ag q) (aM z.out (below_drewN _ nq))).trans k λq _ h=>.inr (.inl h))
  have i:=aH (show iF g a b x d from(Q.out.dV (below_drewN _ nq)).pW k (λh=>M.gg H.out h.symm))
  have B:=aH (show fH g base d.fA L from jH (jH O.out (iD.bh (S:=λ_=>False) (aM z.out (below_drewN _ nq))) (λ_ _ h=>h)) k (λq r h=>by
   obtain⟨-,m,t⟩:=dq O.out r
   exact M.gg t h.symm))
  have x5:g.cell? ⟨a,5,ae⟩=ag d.fA:=i.out.cell 5
  have b4:=aY g (aG #[.iface 318 (.agg #[.string s,.string u])] 190)
  have C:=aH (show fH (g.alloc (aG #[.iface 318 (.agg #[.string s,.string u])] 190)) base d.fA L from jH B.out (iD.bh (S:=λ_=>False) b4) (λ_ _ h=>h))
  have T:=aH (show(L.map gW.val).length<=1000000 by rw[bZ];have:=ZL.out;omega)
  go_wp2_with (refine nK (o:=⟨ag 41,_,_,_,_,_⟩) rfl 136 190 rfl Tryz.underlying136 Tryz.yu rfl (by decide) base (L.map gW.val) rfl (by rw[bZ];exact C.out) ⟨g.heap.size,0,ae⟩ (.iface 318 (.agg #[.string s,.string u])) rfl (cell_one_new _ _ _) rfl T.out (bJ HB.out (bJ l.out.size b4.size)) ?_)
  intro K y E I J
  have A:=aH (show iF y a b x d from(I.block _ (aT (i.out.dV b4)) (λe=>by
   obtain⟨-,m,t⟩:=dq C.out e.symm
   have:=gg (i.out.dV b4) t (by decide)
   exact this rfl)).trans (i.out.dV b4))
  have D:=aH (show fH y base K (L++[.renamed s u])from by unfold fH;rw[gM,aN];exact E)
  have F:=aH (Mt l.out i.out U B.out b4 I D.out)
  have j:=aH (show ∀q,K.ownBlock=ag q->d.fA.ownBlock=ag q\/w.heap.size<=q from λq r=>by
   rcases J q r with e | e
   ·exact .inl e
   ·exact .inr (by have:=l.out.size;have:=b4.size;omega))
  obtain⟨V,W,rfl⟩:=D.out.shape
  rw[show(L++[gW.renamed s u]).length=L.length+1 from by simp]at F j ⊢
  clear E J
  have f5:=A.out.free 5
  have aa:y.cell? ⟨a,5,ae⟩=ag d.fA:=A.out.cell 5
  go_wp2_with fail
  go_ret
  obtain⟨X,Y,k1,k2,k3,k4,k5⟩:=F.out
  exact⟨rfl,X,k1,k2,k3,k4,k5,by rw[Y];exact j.out⟩
theorem EW{w:am}{ops:Array Oper}{c:List Oper}{o:Oper}{a:Act}{Q:Exit->Act->am->Prop}(j:o.guard=ae){m:Operand}(t k e:au)(g:o.op=Op.call { callee:=Callee.builtin Builtin.len,args:=#[m],argTypes:=#[t] })
 (p:Tryz.prog.underlying t=ag (.map k e)) (b n:Nat) (f:Lit->Option ar) (l:a.eval m=.map (ag b)) (h:fL w k b n f) (i:∀z:Nat,z<=n->wpList ax ops Q c (a.put o.dst (ay az z)) w):wpList ax ops Q (o::c) a w:=by
 obtain⟨D,d,-,-⟩:=h.ex
 exact wpList_len_own w j m t g k e p Rv b n D l d (i _ d.size_le)
def tU:Obj:=aG #[aB ae 0 0,aB ae 0 0,ay az 0] 198
theorem PK(b Q a m base:Nat)(d:zB)(L:List gW)(g:Lit->Option ar){w:am}(H:Hid (iF w b Q a d))(M:fL w 9 a m g)(O:Hid (fH w base d.fA L))(hL:L.length<=100)(P:m<=500)(f:∀c∈L,c.ok):
 aw ax 86 #[aA (ag ⟨b,0,ae⟩),ay az L.length] w λe w'=>e=aF (.tuple #[])/\∃z g',iF w' b Q a z/\z.most=d.most/\z.fA=aB ae 0 0/\fL w' 9 a (m+L.length) g'/\iD (λq=>q=b\/q=a) w w':=by
 have U:=aH f
 have J:=aH P
 have S:=M.gg H.out
 have T:w.cell? ⟨b,5,ae⟩=ag d.fA:=H.out.cell 5
 have I:=aH (AW (show w.ownsRow base 190 1 d.fA (L.map gW.val).length (L.map gW.val)from by rw[bZ];exact O.out))
 obtain⟨ao,X,F,E,x,hz,C⟩:=I.out
 rw[bZ]at F E C
 rw[F]at T
 have W:=aH C
 have aa:(L.length:Int)<=(X:Int):=by omega
 clear f P C I
 go_in
 go_wp2_with fail
 go_loopw [13] (λi wr=>∃(k:Nat) (g':Lit->Option ar),k<=L.length/\i=ay az k/\Hid (fL wr 9 a (m+k) g')/\Hid (iD (λq=>q=a) w wr)) (λi _=>L.length-(intOf i).toNat)
 case atStart=>exact⟨0,g,by omega,rfl,aH M,aH (iD.refl _ _)⟩
 case round=>
  obtain⟨k,g',hk,rfl,n,j⟩:=hrel
  have r:=aH (H.out.pW j.out (λe=>S e.symm))
  by_cases A:k<L.length
  ·obtain⟨B,rfl,hb,D,N,Z⟩:=W.out k A
   have kz:(k:Int)<(L.length:Int):=by omega
   obtain⟨c,o,x⟩:∃c,L[k]?=ag c/\c∈L:=⟨L[k],aP A,qH A⟩
   have f:=U.out c x
   have K:wr.cell? ⟨B,k,ae⟩=ag c.val:=by
    rw[ir (w:=w) (j.out.gP B D (λe=>by
     obtain⟨-,Y,hr⟩:=dq O.out (g:=B) (by rw[F];rfl)
     exact M.gg hr e.symm)),N,cZ,o]
    rfl
   have x4:wr.cell? ⟨b,4,ae⟩=ag (.map (ag a)):=r.out.cell 4
   clear o x N Z
   cases c with
   | created s p=>
    simp only[gW.val]at K
    have na:=ye s p
    have me:=vP s p
    go_wp2_with fail
    refine cj 8 (by kernel_rfl) (by kernel_rfl) ?_
    simp only[aJ,aO,aI,aL]
    repeat (go_big_quiet_step (fail))
    refine aU ?_
    intro w2 G
    obtain⟨nq,rfl⟩:=G
    go_wp2_with fail
    refine(sJ s p a (m+k) g' f (n.out.move ((below_drewN wr nq).block _ n.out.lt)) (by have:=J.out;omega)).mono ?_
    rintro e w3 ⟨rfl,l,h⟩
    have y:=aH l
    have t:=aH ((j.out.drewN nq).trans h λ_ _ e=>e)
    clear l h
    go_wp2_with fail
    go_roundw
    case rel=>exact⟨k+1,_,by omega,by go_num,y,t⟩
    case measure=>simp[intOf];omega
   | renamed s u=>
    simp only[gW.val]at K
    have na:=yd s u
    have me:=vO s u
    go_wp2_with fail
    refine cj 8 (by kernel_rfl) (by kernel_rfl) ?_
    simp only[aJ,aO,aI,aL]
    repeat (go_big_quiet_step (fail))
    refine aU ?_
    intro w2 G
    obtain⟨nq,rfl⟩:=G
    go_wp2_with fail
    refine(sI s u a (m+k) g' f.1 f.2 (n.out.move ((below_drewN wr nq).block _ n.out.lt)) (by have:=J.out;omega)).mono ?_
    rintro e w3 ⟨rfl,l,h⟩
    have y:=aH l
    have t:=aH ((j.out.drewN nq).trans h λ_ _ e=>e)
    clear l h
    go_wp2_with fail
    go_roundw
    case rel=>exact⟨k+1,_,by omega,by go_num,y,t⟩
    case measure=>simp[intOf];omega
  ·obtain rfl:k=L.length:=by omega
   have kz:(L.length:Int)<=(L.length:Int):=by omega
   have f5:=r.out.free 5
   have T:wr.cell? ⟨b,5,ae⟩=ag d.fA:=r.out.cell 5
   have V:=aH (n.out.move (bD (w:=wr) (g:=b) (i:=5) (u:=aB ae 0 0) S))
   go_wp2_with fail
   go_end0
   exact⟨rfl,{ d with fA:=aB ae 0 0 },g',bE r.out 5 _,rfl,rfl,V.out,(j.out.mono λ_ _ e=>.inr e).set _ (.inl (.inl rfl))⟩
structure jj(w:am)(base fb:Nat)(bv lv:ar)(B:List (BitVec 8)):Prop where
 row:w.heap[fb]?=ag (aG #[bv,lv,ay az 0] 198 (0,0))
 own:cU w base bv B
 last:∃L,cU w base lv L/\L.length<=B.length
 ap:∀q,bv.ownBlock=ag q->lv.ownBlock≠ag q
theorem jj.dV{w w':am}{base b:Nat}{bv c:ar}{B:List (BitVec 8)}(h:jj w base b bv c B)(a:Below w.heap.size w w'):jj w' base b bv c B:=by
 obtain⟨L,d,e⟩:=h.last
 exact⟨(a.block _ (aT h.row)).trans h.row,h.own.dV a,⟨L,d.dV a,e⟩,h.ap⟩
def MI(w:am)(B:List (BitVec 8))(l:Nat)(e:Ending)(w':am):Prop:=
 ∃a b,e=aF (aB a (B.length-l) b)/\cD w a (B.drop l)/\(a=ae->b=0)/\B.length-l<=b/\∃n,w'=w.drewN n
theorem Mh(base d:Nat)(bv r:ar)(B L:List (BitVec 8))(w:am)(H:Hid (jj w base d bv r B))(p:cU w base r L)(q:L.length<=B.length):
 aw ax 59 #[aA (ag ⟨d,0,ae⟩)] w (MI w B L.length):=by
 obtain⟨m,b,rfl,s,o,K,t,c⟩:=H.out.own.shape
 obtain⟨z,A,rfl,-,-,-,-,-⟩:=p.slice
 have E:w.cell? ⟨d,0,ae⟩=ag (aB m B.length b):=aZ 0 H.out.row
 have F:w.cell? ⟨d,1,ae⟩=ag (aB z L.length A):=aZ 1 H.out.row
 have u:=aH t
 have y:=aH s
 obtain⟨n,f⟩:=bP B.length
 obtain⟨l,j⟩:=bP L.length
 rw[f]at E o q
 rw[j]at F q
 rw[j]
 unfold MI
 rw[f]
 have G:(l:Int)<=(n:Int):=by omega
 have I:(n:Int)<=(b:Int):=by omega
 have J:(l:Int)<=(b:Int):=by omega
 have x:=aH f
 have k:=aH c
 clear t s p c f j
 by_cases D:b=l
 ·obtain rfl:n=l:=by omega
  subst D
  go_in
  go_wp2_with fail
  go_quiet (fail)
  go_wp2_with fail
  go_ret
  exact⟨m,0,by rw[dR];rfl,λi C=>absurd C (by rw[cV,x.out];omega),λ_=>rfl,by omega,nq,rfl⟩
 ·go_in
  cases m with
  | none=>exact absurd (y.out rfl) (by omega)
  | some a=>
   obtain⟨g,rfl⟩:∃g,a=⟨g,0,ae⟩:=by
    rcases k.out with h | ⟨g,h,-⟩
    ·cases h
    ·exact⟨g,by injection h⟩
   go_wp2_with fail
   go_quiet (fail)
   go_wp2_with fail
   go_ret
   exact⟨ag ⟨g,l,ae⟩,b-l,by simp,by have:=u.out.drop l;rwa [cL]at this,(λe=>by cases e),by omega,nq,rfl⟩
theorem YG(base b:Nat)(bv n:ar)(B L:List (BitVec 8)){w:am}(H:Hid (jj w base b bv n B))(y:cU w base n L)(c:L.length<=B.length)(x:B.length<=16777216):
 aw ax 60 #[aA (ag ⟨b,0,ae⟩),ay az (B.length-L.length:Nat)] w λe w'=>∃v,e=aF v/\cU w' w.heap.size v (B.drop L.length)/\Below w.heap.size w w':=by
 have s:=aH y
 obtain⟨z,k⟩:=bP (B.length-L.length)
 have g:=aH k
 have Y:(z:Int)<=16777216:=by omega
 have r:=aH c
 have a:=aH x
 rw[k]
 clear y k c x
 go_in
 go_wp2_with fail
 refine(Mh base b bv n B L w H s.out r.out).mono ?_
 rintro e W ⟨I,u,rfl,A,C,K,nq,rfl⟩
 rw[g.out]at K ⊢
 have O:=aH A
 have f:=aH C
 have M:(z:Int)<=(u:Int):=by omega
 have t:=aH (show(B.drop L.length).length=z by rw[cV];exact g.out)
 clear A C
 go_wp2_with (refine cI (o:=⟨ag 11,_,_,_,_,_⟩) rfl rfl w.heap.size _ [] rfl (cU.nil _ _) I z u (B.drop L.length) rfl t.out.symm (O.out.below (below_drewN w nq)) f.out (by have:=a.out;have:=g.out;simp only[eV,cV];omega) (below_drewN w nq).size ?_)
 intro V E p D F
 have h:=aH p
 have d:=aH ((below_drewN w nq).grown D (below_drewN w nq).size (λj N=>by cases N))
 obtain⟨G,J,i,-⟩:=s.out.slice
 subst i
 have q:=aH (H.out.dV d.out)
 have P:E.cell? ⟨b,1,ae⟩=ag (aB G L.length J):=aZ 1 q.out.row
 have X:E.cell? ⟨b,2,ae⟩=ag (ay az 0):=aZ 2 q.out.row
 obtain⟨Q,S,rfl,-⟩:=p.slice
 rw[t.out]at h ⊢
 have m:(L.length:Int)<=16777216:=by have:=r.out;have:=a.out;omega
 obtain⟨l,c⟩:=bP L.length
 rw[c]at P m
 clear p D F c
 go_wp2_with fail
 refine sw 1 ?_
 rw[KU]
 by_cases T:0<z
 ·have U:decide (0<(z:Int))=aj:=bM (by omega)
  go_wp2_with fail
  go_quiet (fail)
  go_wp2_with fail
  go_ret
  exact⟨_,rfl,h.out.dV (below_drewN _ _),aM d.out (below_drewN _ _)⟩
 ·obtain rfl:z=0:=by omega
  go_wp2_with fail
  go_quiet (fail)
  go_wp2_with fail
  go_ret
  exact⟨_,rfl,h.out.dV (below_drewN _ _),aM d.out (below_drewN _ _)⟩
theorem fG{w:am}{ops:Array Oper}{c:List Oper}{o:Oper}{a:Act}{Q:Exit->Act->am->Prop}(q:o.guard=ae){s x:Operand}
 (z:o.op=.call { callee:=.builtin .append,args:=#[s,x],argTypes:=#[48,48] })
 (base:Nat) (v:ar) (xs:List (BitVec 8)) (A:a.eval s=v) (m:cU w base v xs)
 (l:Option Addr) (n d:Nat) (bs:List (BitVec 8)) (hx:a.eval x=aB l n d) (H:n=bs.length) (r:cD w l bs) (M:l=ae->d=0)
 (y:xs.length+bs.length<=140737488355328) (I:base<=w.heap.size)
 (h:∀k w',cU w' base k (xs++bs)->w.grownBy w' v.ownBlock->(∀j,k.ownBlock=ag j->v.ownBlock=ag j\/w.heap.size<=j)->wpList ax ops Q c (a.put o.dst k) w'):wpList ax ops Q (o::c) a w:=by
 subst H
 obtain⟨i,t,L,J,K⟩:=sy Tryz.rk
 cases l with
 | none=>
  have D:bs.length=0:=by
   rcases gV bs.length with h | h
   ·exact h
   ·obtain⟨b,p,e,_⟩:=r 0 h;cases e
  have N:bs=[]:=eu D
  subst N
  rw[M rfl]at hx
  refine wpList_append_own_none q s x 48 z base 5 i 1 Tryz.underlying48 t v xs.length (gm xs) A m hx ?_
  exact h v w (by simpa using m) (World.grownBy.refl _ _) (λ_ e=>.inl e)
 | some ad=>
  have C:∀j u,(gm bs)[j]?=ag u->w.cell? (ad.add j)=ag u:=by
   intro j u B
   have f:j<bs.length:=by have:=(aK.1 B).1;rwa [gd]at this
   obtain⟨b,p,e,G⟩:=r j f
   obtain rfl:=iy e
   rw[VW,G,<-mK f,B]
  refine wpList_append_own_at (w:=w) q s x 48 z base 5 i (ay .u8 0) 1 1 Tryz.underlying48 t L J K rfl (by decide) v xs.length (gm xs) A m ad bs.length d (gm bs) hx (by rw[gd,dY]) C (Bq bs)
   (by simp only[maxLen];omega) (by omega) I ?_
  intro k w' E F _ g
  refine h k w' ?_ F λj f=>?_
  rotate_left
  ·rcases g with g | g
   ·exact .inl (g▸f)
   ·rw[g]at f;injection f with f;exact .inr (by omega)
  unfold cU
  rw[aN,pX]
  exact E
theorem rS{w:am}{base q:Nat}{v:ar}{bs:List (BitVec 8)}{cs:Array ar}{f:Nat×Nat}(h:cU w base v bs)(c:w.heap[q]?=ag (.cells cs 198 f)):v.ownBlock≠ag q:=λe=>by
 obtain⟨-,b,a⟩:=dq h e
 rw[c]at a
 simp at a
theorem YE(base b:Nat)(bv g:ar)(B:List (BitVec 8)){w:am}(H:Hid (jj w base b bv g B))(P:B.length<=16777216)(U:base<=w.heap.size):
 aw ax 154 #[aA (ag ⟨b,0,ae⟩)] w λe w'=>e=aF (.tuple #[])/\∃V,jj w' base b bv V B/\iD (λq=>q=b\/g.ownBlock=ag q) w w'/\(∀q,V.ownBlock=ag q->g.ownBlock=ag q\/w.heap.size<=q):=by
 obtain⟨L,Q,T⟩:=H.out.last
 have u:=aH Q
 have r:=aH T
 have l:=aH P
 have t:=aH U
 have q1:∀p:In (λw'=>w'.cell? ⟨b,1,ae⟩=ag g),p.w.cell? ⟨b,1,ae⟩=ag g:=λp=>p.h
 have A:=aH (show ∀w',Below w.heap.size w w'->w'.cell? ⟨b,1,ae⟩=ag g from λw' h=>aZ 1 (H.out.dV h).row)
 clear Q T P U
 go_in
 go_wp2_with fail
 refine ct [0,1,2,3,4,5,6,7,8,9,10,11,12] 13 (λw'=>w'.cell? ⟨b,1,ae⟩=ag g) (by kernel_rfl) (by kernel_rfl) (by intro c a d v w h;cases d <;> exact h) (A.out _ (bi _)) ?_
 intro dF
 simp only[pick,aV,a8,aQ,aR,aI,aL]
 refine aX 7 (by kernel_rfl) ?_
 simp only[aJ,aO,aI,aL]
 repeat (go_big_quiet_step (fail))
 refine aU ?_
 refine aS rfl ?_ rfl
 go_wp2_with fail
 refine(Mh base b bv g B L w.drew (aH (H.out.dV (bi _))) (u.out.dV (bi _)) r.out).mono ?_
 rintro e w1 ⟨ao,ca,rfl,-,-,-,nq,O⟩
 have n:=aH (show Below w.heap.size w w1 from by rw[O];exact aM (bi w) (below_drewN w.drew nq))
 clear O
 go_wp2_with fail
 refine⟨⟨⟨_,A.out _ n.out⟩,rfl⟩,?_⟩
 refine aX 1 (by kernel_rfl) ?_
 simp only[aJ,aO,aI,aL]
 repeat (go_big_quiet_step (fail))
 refine aU ?_
 refine aS rfl ?_ rfl
 go_wp2_with fail
 refine(YG base b bv g B L (aH (H.out.dV n.out)) (u.out.dV n.out) r.out l.out).mono ?_
 rintro e w2 ⟨v2,rfl,W,N⟩
 have k:=aH (aM n.out N)
 obtain⟨a2,c2,rfl,F,K,-⟩:=W.slice
 have X2:=aH F
 have Y:=aH K
 have I:=aH (u.out.dV k.out)
 have i:=aH (H.out.dV k.out)
 clear W N F K
 go_wp2_with fail
 refine⟨⟨⟨_,A.out _ k.out⟩,rfl⟩,?_⟩
 refine aS rfl ?_ rfl
 go_wp2_with (refine fG (o:=⟨ag 12,_,_,_,_,_⟩) rfl rfl base g L rfl I.out a2 _ c2 (B.drop L.length) rfl (by simp) X2.out Y.out (by have:=r.out;have:=l.out;rw[cV];omega) (bJ t.out k.out.size) ?_)
 intro v3 E y s M
 have j:=aH ((s.block _ (aT i.out.row) (λe=>rS I.out i.out.row e.symm)).trans i.out.row)
 have G:(L++B.drop L.length).length=B.length:=by rw[aN,cV];have:=r.out;omega
 have x:=aH y
 have z:=aH M
 have J:=aH (dC i.out.own λq f=>s.block q (by obtain⟨-,c,h⟩:=dq i.out.own f;exact aT h) (λe=>i.out.ap q f e.symm))
 have X:=aH (show iD (λq=>q=b\/g.ownBlock=ag q) w E from(iD.bh (S:=λq=>q=b\/g.ownBlock=ag q) k.out).grown s (λq f=>.inl (.inr f)))
 obtain⟨C,D,rfl,-⟩:=y.slice
 rw[G]at x z ⊢
 have x1:E.cell? ⟨b,1,ae⟩=ag g:=aZ 1 j.out
 have x2:E.cell? ⟨b,2,ae⟩=ag (ay az 0):=aZ 2 j.out
 have f1:=bQ 1 j.out
 have f2:=bQ 2 j.out
 have Z:=aH (bE (bE j.out 1 (aB C B.length D)) 2 (ay az 0))
 clear y s M
 go_wp2_with fail
 refine⟨⟨⟨_,x1⟩,rfl⟩,?_⟩
 refine aX 2 (by kernel_rfl) ?_
 simp only[aJ,aO,aI,aL]
 repeat (go_big_quiet_step (fail))
 refine aU ?_
 refine bF ?_
 clear dF q1
 change wpList _ _ _ _ _ _
 go_wp2_with fail
 go_end0
 have nv:(Value.slice C B.length D).ownBlock≠ag b:=rS x.out j.out
 have nb:bv.ownBlock≠ag b:=rS J.out j.out
 refine⟨rfl,aB C B.length D,⟨Z.out,?_,⟨_,?_,by rw[G];omega⟩,λq f e=>?_⟩,(X.out.set _ (.inl (.inl rfl))).set _ (.inl (.inl rfl)),λq f=>?_⟩
 ·exact dC J.out λq f=>have m:q≠b:=(λe=>nb (e▸f));(bD m).trans (bD m)
 ·exact dC x.out λq f=>have m:q≠b:=(λe=>nv (e▸f));(bD m).trans (bD m)
 ·rcases z.out q e with h | h
  ·exact i.out.ap q f h
  ·obtain⟨-,c,hr⟩:=dq i.out.own f
   have:=aT hr
   omega
 ·rcases z.out q f with h | h
  ·exact .inl h
  ·exact .inr (by have:=k.out.size;omega)
theorem jj.pW{S:Nat->Prop}{w w':am}{base a:Nat}{bv c:ar}{B:List (BitVec 8)}(h:jj w base a bv c B)(b:iD S w w')(e:¬ S a)(f:∀q,bv.ownBlock=ag q->¬ S q)(g:∀q,c.ownBlock=ag q->¬ S q):jj w' base a bv c B:=by
 obtain⟨L,d,g2⟩:=h.last
 exact⟨b.dV h.row e,jH h.own b f,⟨L,jH d b g,g2⟩,h.ap⟩
theorem jj.iZ{w:am}{base f a l j:Nat}{bv g:ar}{B:List (BitVec 8)}{d:zB}(h:jj w base f bv g B)(k:iF w a l j d):f≠a/\(∀q,bv.ownBlock=ag q->¬ q=a)/\(∀q,g.ownBlock=ag q->¬ q=a):=by
 obtain⟨L,i,g2⟩:=h.last
 refine⟨gg k h.row (by decide),λq b=>?_,λq b=>?_⟩
 ·obtain⟨-,c,e⟩:=dq h.own b
  exact gg k e (by decide)
 ·obtain⟨-,c,e⟩:=dq i b
  exact gg k e (by decide)
structure wB(w w':am)(base db nb lb fb:Nat)(d:zB)(bv lv:ar)(xx sX:ar)(B':List (BitVec 8)):Prop where
 dk:∃d',iF w' db nb lb d'/\d'.most=d.most/\d'.fA=d.fA
 file:jj w' base fb xx sX B'
 pW:iD (λq=>q=db\/q=fb\/bv.ownBlock=ag q\/lv.ownBlock=ag q) w w'
 afZ:∀q,xx.ownBlock=ag q->bv.ownBlock=ag q\/w.heap.size<=q
 afY:∀q,sX.ownBlock=ag q->lv.ownBlock=ag q\/w.heap.size<=q
theorem Y5(b g i n base c:Nat)(d:zB)(f:Lit->Option ar)(s:ByteArray)(bv o:ar)(B:List (BitVec 8))(w:am)(H:Hid (iF w b g i d))(M:fL w 9 g n f)(C:kK s=aj)(A:f (fS s)=ag (aA (ag ⟨c,0,ae⟩)))(F:Hid (jj w base c bv o B))(z:B.length<=16777216)(D:base<=w.heap.size):
 aw ax 118 #[aA (ag ⟨b,0,ae⟩),.string s] w λe w'=>e=aF (ay az 0)/\∃p,wB w w' base b g i c d bv o bv p B:=by
 go_in
 go_wp2_with fail
 refine(ui b g i n d f s w H.out M C (ag ⟨c,0,ae⟩) (by rw[A];rfl)).mono ?_
 rintro e w' ⟨rfl,rfl⟩
 go_wp2_with fail
 refine(kD b g i 8 d w' H (by decide)).mono ?_
 rintro e E ⟨rfl,u,a⟩
 have b3:=aY E (aG #[ay az 0,ay az 0,ay az 0] 145)
 have h:=F.out.iZ H.out
 have k:=aH ((F.out.pW a.pW h.1 h.2.1 h.2.2).dV b3)
 have l:=aH (a.ie.dV b3)
 have j:=aH (a.pW.on b3)
 have t:=aH (And.intro a.most a.fA)
 clear b3 h a
 unfold jm
 go_wp2_with fail
 refine(YE base c bv o B k z (bJ D j.out.size)).mono ?_
 rintro e G ⟨rfl,p,x,r,y⟩
 go_wp2_with fail
 go_ret
 refine⟨rfl,p,⟨u,l.out.pW r (λe=>?_),t.out⟩,x,(j.out.mono λ_ _ e=>.inl e).trans r (λq _ e=>?_),λq m=>.inl m,λq m=>?_⟩
 ·rcases e with e | e
  ·exact(k.out.iZ l.out).1 e.symm
  ·exact(k.out.iZ l.out).2.2 _ e rfl
 ·rcases e with e | e
  ·exact .inr (.inl e)
  ·exact .inr (.inr (.inr e))
 ·rcases y q m with e | e
  ·exact .inl e
  ·exact .inr (bJ j.out.size e)
end
end Go.Proofs.YtooinenkenobaaaGreat

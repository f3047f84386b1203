/- A part of the proof of what LawWholeReaders says. -/
import Derived.Test.YtooinenkenobaaaGreatAa
import Derived.Test.YtooinenkenobaaaGreatBh
import Derived.Test.YtooinenkenobaaaGreatChecked
set_option maxRecDepth 100000
set_option maxHeartbeats 20000000
namespace Go.Proofs.YtooinenkenobaaaGreat
open Option renaming none->ae,some->ag
open Bool renaming false->ah,true->aj
open Go.Proofs.Tryz renaming prog->ax
open Go.Value renaming int->ay,pointer->aA,slice->aB,bool->aC,float->aD
open Go.IntKind renaming i64->az
open Go.FloatKind renaming f64->aE
open Go.Ending renaming returned->aF
open Go.Obj renaming cells->aG
open Go renaming World->am,Value->ar,TypeId->au,Calls->aw
section
open Go.RowKit Go.Shelf
structure tj where
 count:Nat
 end_:Nat
 next:Int
 seed:BitVec 32
def oU(s:tj)(a:Int):ar:=.agg #[ay az s.count,ay az s.end_,ay az s.next,ay .u32 (bv s.seed),ay az a]
def rQ(bs:List (BitVec 8))(s:tj):Rd:=rF s.seed (bs.drop s.end_)
def xq(bs:List (BitVec 8))(s:tj):Prop:=s.end_<bs.length/\(rQ bs s).err=0/\bv (rQ bs s).lsn=s.next
def mS(bs:List (BitVec 8))(s:tj):tj:=⟨s.count+1,s.end_+(rQ bs s).n,s.next+1,(rQ bs s).sum⟩
def uE(bs:List (BitVec 8))(s:tj):Nat:=if s.end_<bs.length then(if(rQ bs s).err≠0 then(rQ bs s).err else 6)else 1
def eL(bs:List (BitVec 8))(s:tj):Nat->tj
 | 0=>s
 | i+1=>mS bs (eL bs s i)
structure OkS(bs:List (BitVec 8))(s:tj):Prop where
 le:s.end_<=bs.length
 count:s.count<=s.end_
 lo:-9223372036854775808<=s.next
 hi:s.next<=9223372036854775807
theorem GB{bs:List (BitVec 8)}{s:tj}(h:xq bs s)(k:OkS bs s):OkS bs (mS bs s)/\s.end_+16<=(mS bs s).end_/\s.next<=9223372036854775806:=by
 obtain⟨m,b,c⟩:=h
 obtain⟨d,e,n,f,g,o,p⟩:=agh b
 have l:(rQ bs s).n=16+(rQ bs s).data.length:=f
 have a:(rQ bs s).n<=(bs.drop s.end_).length:=g
 rw[cV]at a
 have hx:s.next=((rQ bs s).lsn.toNat:Int):=c.symm
 have j:(rQ bs s).lsn.toNat<=9223372036854775806:=e
 have i:1<=(rQ bs s).lsn.toNat:=d
 have kc:=k.count
 refine⟨⟨?_,?_,?_,?_⟩,?_,?_⟩
 ·show s.end_+(rQ bs s).n<=bs.length;omega
 ·show s.count+1<=s.end_+(rQ bs s).n;omega
 ·show -9223372036854775808<=s.next+1;omega
 ·show s.next+1<=9223372036854775807;omega
 ·show s.end_+16<=s.end_+(rQ bs s).n;omega
 ·omega
theorem Sl(seed:BitVec 32)(bs:List (BitVec 8)):(rF seed bs).err<=5/\(rF seed bs).err≠1:=by
 unfold rF
 repeat' split
 all_goals first | exact⟨by decide,by decide⟩ | exact(show(0:Nat)<=5/\(0:Nat)≠1 from by decide)
theorem Fw(e:Nat){w:am}(h:e<=5/\2<=e):
 aw ax 160 #[ay az e] w λx w'=>x=aF (ay az e)/\w=w':=by
 have a:e=2\/e=3\/e=4\/e=5:=by omega
 rcases a with rfl | rfl | rfl | rfl
 all_goals
  go_in
  go_wp2_with fail
  go_ret
  exact⟨rfl,rfl⟩
structure qD(B bB:Nat)(ao:Option Addr)(cap:Nat)(bs:List (BitVec 8))(s:tj)(w:am):Prop where
 c0:w.cell? ⟨B,0,ae⟩=ag (ay az s.count)
 c1:w.cell? ⟨B,1,ae⟩=ag (ay az s.end_)
 c2:w.cell? ⟨B,2,ae⟩=ag (ay az s.next)
 c3:w.cell? ⟨B,3,ae⟩=ag (ay .u32 (bv s.seed))
 c4:w.cell? ⟨B,4,ae⟩=ag (ay az 0)
 fr:∀j,w.frozen? ⟨B,j,ae⟩=ah
 cb:w.cell? ⟨bB,0,ae⟩=ag (aB ao bs.length cap)
 bytes:cD w ao bs
 ne:bB≠B
 off:∀g o,ao=ag ⟨g,o,ae⟩->bs≠[]->g≠B
theorem qD.lt{B c a:Nat}{b:Option Addr}{bs:List (BitVec 8)}{s:tj}{w:am}(h:qD B c b a bs s w):B<w.heap.size:=eK h.c0
theorem qD.on{B d b:Nat}{c:Option Addr}{bs:List (BitVec 8)}{s:tj}{w w':am}(h:qD B d c b bs s w)(a:Below w.heap.size w w'):qD B d c b bs s w':=
 ⟨bL a h.c0,bL a h.c1,bL a h.c2,bL a h.c3,bL a h.c4,λj=>(a.frozen (p:=⟨B,j,ae⟩) h.lt).trans (h.fr j),bL a h.cb,h.bytes.below a,h.ne,h.off⟩
structure KD(B bB:Nat)(ao:Option Addr)(w w':am):Prop where
 size:w.heap.size<=w'.heap.size
 own:B<w.heap.size->w'.heap[B]?=w.heap[B]?
 box:bB<w.heap.size->w'.heap[bB]?=w.heap[bB]?
 bytes:∀g o,ao=ag ⟨g,o,ae⟩->g<w.heap.size->w'.heap[g]?=w.heap[g]?
theorem qD.kept{B f c:Nat}{l:Option Addr}{bs:List (BitVec 8)}{s:tj}{w w':am}(h:qD B f l c bs s w)(k:KD B f l w w'):qD B f l c bs s w':=by
 have d:∀j,w'.cell? ⟨B,j,ae⟩=w.cell? ⟨B,j,ae⟩:=λj=>ir (a:=⟨B,j,ae⟩) (k.own h.lt)
 refine⟨(d 0).trans h.c0,(d 1).trans h.c1,(d 2).trans h.c2,(d 3).trans h.c3,(d 4).trans h.c4,λj=>?_,(ir (a:=⟨f,0,ae⟩) (k.box (eK h.cb))).trans h.cb,λi m=>?_,h.ne,h.off⟩
 ·have:=h.fr j
  unfold World.frozen? at *
  rw[k.own h.lt];exact this
 ·obtain⟨g,o,e,b⟩:=h.bytes i m
  exact⟨g,o,e,(ir (a:=⟨g,o+i,ae⟩) (k.bytes g o e (eK b))).trans b⟩
attribute [local go_sem] Oper.semAt_some
def Tj(B n:Nat)(w:am):Nat:=n+1-(match w.cell? ⟨B,1,ae⟩with
 | some v=>(intOf v).toNat
 | none=>0)
theorem tW{B c a:Nat}{b:Option Addr}{bs:List (BitVec 8)}{s:tj}{w:am}(h:qD B c b a bs s w):Tj B bs.length w=bs.length+1-s.end_:=by
 unfold Tj
 rw[h.c1]
 simp[intOf]
structure ajc(B:Nat)(s:tj)(y:Int)(w:am):Prop where
 c0:w.cell? ⟨B,0,ae⟩=ag (ay az s.count)
 c1:w.cell? ⟨B,1,ae⟩=ag (ay az s.end_)
 c2:w.cell? ⟨B,2,ae⟩=ag (ay az s.next)
 c3:w.cell? ⟨B,3,ae⟩=ag (ay .u32 (bv s.seed))
 c4:w.cell? ⟨B,4,ae⟩=ag (ay az y)
theorem yr{B c a:Nat}{b:Option Addr}{bs:List (BitVec 8)}{s:tj}{w:am}(h:qD B c b a bs s w)(y:Int):ajc B s y (w.setCell ⟨B,4,ae⟩ (ay az y)):=by
 have o:∀j,j≠4->(w.setCell ⟨B,4,ae⟩ (ay az y)).cell? ⟨B,j,ae⟩=w.cell? ⟨B,j,ae⟩:=λj d=>dI _ _ _ _ (by intro e;injection e;omega)
 exact⟨(o 0 (by omega)).trans h.c0,(o 1 (by omega)).trans h.c1,(o 2 (by omega)).trans h.c2,(o 3 (by omega)).trans h.c3,dE _ _ _ h.c4⟩
theorem P9{c:Nat}{w w':am}{d:Option Addr}{bs:List (BitVec 8)}(h:cD w d bs)(l:ja c w w')(k:∀g a,d=ag ⟨g,a,ae⟩->bs≠[]->g≠c):cD w' d bs:=λi f=>by
 obtain⟨g,a,e,b⟩:=h i f
 exact⟨g,a,e,l.cell b (k g a e (by intro j;subst j;simp at f))⟩
theorem LF{B d a:Nat}{c:Option Addr}{bs:List (BitVec 8)}{s:tj}{w:am}(h:qD B d c a bs s w)(t:tj):
 qD B d c a bs t ((((w.setCell ⟨B,0,ae⟩ (ay az t.count)).setCell ⟨B,1,ae⟩ (ay az t.end_)).setCell ⟨B,2,ae⟩ (ay az t.next)).setCell ⟨B,3,ae⟩ (ay .u32 (bv t.seed)))/\
  ja B w ((((w.setCell ⟨B,0,ae⟩ (ay az t.count)).setCell ⟨B,1,ae⟩ (ay az t.end_)).setCell ⟨B,2,ae⟩ (ay az t.next)).setCell ⟨B,3,ae⟩ (ay .u32 (bv t.seed))):=by
 have o:∀(u:am) (j k:Nat) (v:ar),j≠k->(u.setCell ⟨B,k,ae⟩ v).cell? ⟨B,j,ae⟩=u.cell? ⟨B,j,ae⟩:=λu j k v f=>dI _ _ _ _ (by intro e;injection e;omega)
 have b:ja B w ((((w.setCell ⟨B,0,ae⟩ (ay az t.count)).setCell ⟨B,1,ae⟩ (ay az t.end_)).setCell ⟨B,2,ae⟩ (ay az t.next)).setCell ⟨B,3,ae⟩ (ay .u32 (bv t.seed))):=((((ja.refl B w).qS 0 _).qS 1 _).qS 2 _).qS 3 _
 refine⟨⟨?_,?_,?_,?_,?_,λj=>?_,b.cell h.cb (by simp only;exact h.ne),P9 h.bytes b h.off,h.ne,h.off⟩,b⟩
 ·rw[o _ 0 3 _ (by omega),o _ 0 2 _ (by omega),o _ 0 1 _ (by omega)];exact dE _ _ _ h.c0
 ·rw[o _ 1 3 _ (by omega),o _ 1 2 _ (by omega)];exact dE _ _ _ ((o _ 1 0 _ (by omega)).trans h.c1)
 ·rw[o _ 2 3 _ (by omega)];exact dE _ _ _ ((o _ 2 1 _ (by omega)).trans ((o _ 2 0 _ (by omega)).trans h.c2))
 ·exact dE _ _ _ ((o _ 3 2 _ (by omega)).trans ((o _ 3 1 _ (by omega)).trans ((o _ 3 0 _ (by omega)).trans h.c3)))
 ·rw[o _ 4 3 _ (by omega),o _ 4 2 _ (by omega),o _ 4 1 _ (by omega),o _ 4 0 _ (by omega)];exact h.c4
 ·rw[kY,kY,kY,kY];exact h.fr j
theorem Vb(bN bS bB:Nat)(ao:Option Addr)(cap:Nat)(bs:List (BitVec 8))(s0:tj)(m l:Nat)(J:Nat->am->Prop)(Jx Jz:am->Prop)(W:am)(L9:s0.count=0/\s0.end_=0)(qx:OkS bs s0)
 (hbN:W.cell? ⟨bN,0,ae⟩=ag (ay az s0.next)) (hbS:W.cell? ⟨bS,0,ae⟩=ag (ay .u32 (bv s0.seed))) (hbB:W.cell? ⟨bB,0,ae⟩=ag (aB ao bs.length cap)) (Bd:cD W ao bs) (hn:ao=ae->cap=0) (hc:bs.length<=cap) (hm:cap<=9223372036854775807) (hl:bs.length<=140737488363520)
 (hJ:∀i W1 W2,J i W1->ja W.heap.size W1 W2->J i W2)
 (hGo:∀i W0 W1 v,(∀j,j<i->xq bs (eL bs s0 j))->xq bs (eL bs s0 i)->J i W0->W.heap.size<W0.heap.size->ja W.heap.size W0 W1->cU W1 W0.heap.size v (rQ bs (eL bs s0 i)).data->
  YieldAt Fence.wide m ax l #[oU (eL bs s0 i) 0,.agg #[ay az (bv (rQ bs (eL bs s0 i)).lsn),v]] W1 λe W2=>(e=aF (aC aj)/\J (i+1) W2/\KD W.heap.size bB ao W1 W2)\/(e=aF (aC ah)/\Jx W2))
 (ahq:∀i W0 W1,(∀j,j<i->xq bs (eL bs s0 j))->¬ xq bs (eL bs s0 i)->J i W0->ja W.heap.size W0 W1->
  YieldAt Fence.wide m ax l #[oU (eL bs s0 i) ((uE bs (eL bs s0 i):Nat):Int),.agg #[ay az 0,aB ae 0 0]] W1 λe W2=>(∃t,e=aF (.bool t))/\Jz W2)
 (h0:J 0 W):
 CallsIn Fence.wide (m+1) ax 159 #[.func (.yield l) #[] #[],aA (ag ⟨bN,0,ae⟩),aA (ag ⟨bS,0,ae⟩),aA (ag ⟨bB,0,ae⟩)] W λe W'=>(∃v,e=aF v)/\(Jx W'\/Jz W'):=by
 have HJ:=aH hJ
 have HGo:=aH hGo
 have VF:=aH ahq
 have H0:=aH h0
 have HBy:=aH Bd
 have HOK:=aH qx
 have HNN:=aH hn
 obtain⟨kg,mf⟩:=L9
 have HA:Hid (qD W.heap.size bB ao cap bs s0 (W.alloc (aG #[ay az 0,ay az 0,ay az s0.next,ay .u32 (bv s0.seed),ay az 0] 273))):=aH (by
  have h1:=bp W (aG #[ay az 0,ay az 0,ay az s0.next,ay .u32 (bv s0.seed),ay az 0] 273)
  have b1:=aY W (aG #[ay az 0,ay az 0,ay az s0.next,ay .u32 (bv s0.seed),ay az 0] 273)
  exact⟨by rw[kg];exact aZ 0 h1,by rw[mf];exact aZ 1 h1,aZ 2 h1,aZ 3 h1,aZ 4 h1,λj=>bQ j h1,bL b1 hbB,Bd.below b1,by have:=eK hbB;simp only at this;omega,λg o e h=>by
   have hp:=Ez.2 h
   obtain⟨g',o',e',hcell⟩:=Bd 0 hp
   rw[e]at e'
   injection e' with e';injection e' with e1 e2
   subst e1
   have:=eK hcell
   simp only at this;omega⟩)
 have HU0:=aH ((ja.refl W.heap.size W).bh (aY W (aG #[ay az 0,ay az 0,ay az s0.next,ay .u32 (bv s0.seed),ay az 0] 273)))
 clear hJ hGo ahq h0 Bd qx hn
 refine callsIn_of_wp Tryz.func159 rfl trivial ?_ rfl
 simp only[Tryz.ntmps159,iq,bV,eV,Nat.reduceAdd,Nat.reduceSub,Array.replicate_succ,Array.replicate_zero,List.push_toArray,rL,fY,eF]
 gi_wp2
 clear hbN hbS hbB kg mf
 gi_loopw [6,7,8,9] (λ_ _ _ _ wr=>∃(i:Nat) (s:tj),Hid (∀j,j<i->xq bs (eL bs s0 j))/\Hid (eL bs s0 i=s)/\Hid (OkS bs s)/\J i wr/\qD W.heap.size bB ao cap bs s wr) (λ_ _ _ _ wr=>Tj W.heap.size bs.length wr)
 case atStart=>exact⟨0,s0,aH (λj hj=>by omega),aH rfl,HOK,HJ.out 0 _ _ H0.out HU0.out,HA.out⟩
 case round=>
  obtain⟨i,s,hg,hi,hk,hJi,hA⟩:=hrel
  have JI:=aH hJi
  have IA:=aH hA
  have c1:=hA.c1
  have cb:=hA.cb
  have kle:=hk.out.le
  clear hJi hA HA H0 HU0
  by_cases fp:s.end_<bs.length
  ·have avR:(s.end_:Int)<(bs.length:Int):=by omega
   obtain⟨gb,off,rfl,-⟩:=IA.out.bytes 0 (by omega)
   obtain⟨r,hr⟩:=bP (rQ bs s)
   have HR:=aH hr
   have XD:=aH (IA.out.bytes.drop s.end_)
   have kc:¬ cap=s.end_:=by omega
   have Wr:∀p:In (qD W.heap.size bB (ag ⟨gb,off,ae⟩) cap bs s),p.w.cell? ⟨W.heap.size,1,ae⟩=ag (ay az s.end_):=λp=>p.h.c1
   have qs1:∀p:In (qD W.heap.size bB (ag ⟨gb,off,ae⟩) cap bs s),p.w.cell? ⟨W.heap.size,3,ae⟩=ag (ay .u32 (bv s.seed)):=λp=>p.h.c3
   have qs2:∀p:In (qD W.heap.size bB (ag ⟨gb,off,ae⟩) cap bs s),p.w.cell? ⟨bB,0,ae⟩=ag (aB (ag ⟨gb,off,ae⟩) bs.length cap):=λp=>p.h.cb
   clear hr
   gi_wp2
   refine wpIn_wide.2 ?_
   refine qM [0,1,2,3,4,5] 6 12 [7,8,9,10,11,12,13,14,15,16] [6,7,8,9,10,11,13,14,15,16] (qD W.heap.size bB (ag ⟨gb,off,ae⟩) cap bs s) (by kernel_rfl) (by kernel_rfl) (by intro c a d v w h;cases d <;> exact h) (IA.out.on (bi _)) ?_
   intro dF
   simp only[pick,aV,a8,aQ,aR]
   repeat (go_big_quiet_step (fail))
   refine aU ?_
   refine⟨?_,?_⟩
   ·refine aS rfl ?_ rfl
    go_wp2_with fail
    refine(uf s.seed (bs.drop s.end_) _ (cap-s.end_) rfl (XD.out.below (bi wr)) cV (λh=>by cases h) (by omega) (by omega) r HR.out).mono ?_
    rintro e x1 ⟨vq,he,hO,hb⟩
    obtain⟨aq,cq,rfl,-,-,-,-,-⟩:=hO.slice
    subst he
    have CX:=aH (IA.out.on (aM (bi _) hb))
    have BQ:=aH (aM (bi wr) (aM hb (aY x1 (aG #[ay az (bv r.lsn),aB aq r.data.length cq] 72))))
    have Q:=aH (Xy x1 (bv r.lsn) (aB aq r.data.length cq))
    have OQ:=aH (show cU (x1.alloc (aG #[ay az (bv r.lsn),aB aq r.data.length cq] 72)) wr.heap.size (aB aq r.data.length cq) r.data from cU.dV hO (aY x1 (aG #[ay az (bv r.lsn),aB aq r.data.length cq] 72)))
    have HZ:=bp x1 (aG #[ay az 0,aB ae 0 0] 72)
    have z0:=aZ 0 HZ
    have z1:=aZ 1 HZ
    have fz0:=bQ 0 HZ
    have fz1:=bQ 1 HZ
    have CZ:=aH (CX.out.on (aY x1 (aG #[ay az 0,aB ae 0 0] 72)))
    have CF:=aH (CX.out.on (aY x1 (aG #[ay az (bv r.lsn),aB aq r.data.length cq] 72)))
    clear hO hb HZ
    go_wp2_with fail
    refine⟨⟨⟨_,CX.out⟩,rfl⟩,?_⟩
    refine aX 5 (by kernel_rfl) ?_
    simp only[aJ,aO,aI,aL]
    repeat (go_big_quiet_step (fail))
    refine aU ?_
    refine aS rfl ?_ rfl
    go_wp2_with fail
    refine⟨⟨⟨_,CZ.out⟩,rfl⟩,?_⟩
    refine aS rfl ?_ rfl
    go_wp2_with fail
    refine⟨⟨⟨_,CF.out⟩,rfl⟩,?_⟩
    refine aX 3 (by kernel_rfl) ?_
    simp only[aJ,aO,aI,aL]
    repeat (go_big_quiet_step (fail))
    refine aU ?_
    refine bF ?_
    clear dF z0 z1 fz0 fz1 CX CZ CF Wr qs1 qs2
    obtain⟨wq,lT⟩:=bP (x1.alloc (aG #[ay az (bv r.lsn),aB aq r.data.length cq] 72))
    rw[lT]at BQ Q OQ
    rw[lT]
    clear lT
    have IQ:=aH (IA.out.on BQ.out)
    have q0:=Q.out.c0
    have q1:=Q.out.c1
    have d0:=IQ.out.c0
    have d1:=IQ.out.c1
    have d2:=IQ.out.c2
    have d3:=IQ.out.c3
    have d4:=IQ.out.c4
    have f0:=IQ.out.fr 0
    have f1:=IQ.out.fr 1
    have f2:=IQ.out.fr 2
    have f3:=IQ.out.fr 3
    have f4:=IQ.out.fr 4
    clear c1 cb
    by_cases hE:r.err=0
    ·have hE':((r.err:Nat):Int)=0:=by omega
     by_cases hN:bv r.lsn=s.next
     ·have Bb:xq bs s:=⟨fp,by rw[HR.out];exact hE,by rw[HR.out];exact hN⟩
      obtain⟨yF,Uh,kA⟩:=GB Bb hk.out
      obtain⟨fn,tmps,assign,body,hy,hR⟩:=HGo.out i wr wq (aB aq r.data.length cq) hg.out (by rw[hi.out];exact Bb) JI.out IA.out.lt ((ja.refl W.heap.size wr).bh BQ.out) (by rw[hi.out,HR.out];exact OQ.out)
      rw[hi.out,HR.out,hN]at hy
      unfold oU at hy
      have NX:=aH (show mS bs s=⟨s.count+1,s.end_+r.n,s.next+1,r.sum⟩by unfold mS;rw[HR.out])
      have yD:s.end_+r.n<=bs.length:=by have:=yF.le;rw[NX.out]at this;exact this
      have t8:s.count<=s.end_:=hk.out.count
      have Wx:=hk.out.lo
      have HK2:=aH yF
      have ad0:=aH Uh
      have HGN:=aH Bb
      have CR:(s.end_:Int)+(r.n:Int)<=140737488363520:=by omega
      have QN:(s.count:Int)+1<=140737488363520:=by omega
      have hn3:s.next+1<=9223372036854775807:=by omega
      clear hE yF Uh Bb
      gi_wp2
      refine hR.mono ?_
      rintro e W3 (⟨rfl,hJ3,hk3⟩ | ⟨rfl,hx⟩)
      ·have I3:=aH (IQ.out.kept hk3)
       have J3:=aH hJ3
       clear hJ3 hk3 d0 d1 d2 d3 d4 f0 f1 f2 f3 f4 q0 q1 hy hR
       have d0:=I3.out.c0
       have d1:=I3.out.c1
       have d2:=I3.out.c2
       have d3:=I3.out.c3
       have f0:=I3.out.fr 0
       have f1:=I3.out.fr 1
       have f2:=I3.out.fr 2
       have f3:=I3.out.fr 3
       gi_wp2
       have N3:=LF I3.out ⟨s.count+1,s.end_+r.n,s.next+1,r.sum⟩
       dsimp only at N3
       simp only[Ed,Int.natCast_one]at N3
       obtain⟨n1,n2⟩:=N3
       go_roundw
       case rel=>exact⟨i+1,⟨s.count+1,s.end_+r.n,s.next+1,r.sum⟩,aH (λj hj=>by
        by_cases e:j=i
        ·subst e;rw[hi.out];exact HGN.out
        ·exact hg.out j (by omega)),aH (by show mS bs (eL bs s0 i)=_;rw[hi.out,NX.out]),aH (NX.out▸HK2.out),HJ.out (i+1) _ _ J3.out n2,n1⟩
       case measure=>
        rw[tW n1,tW IA.out]
        have:=ad0.out
        rw[NX.out]at this
        dsimp only at this ⊢
        omega
      ·gi_wp2
       refine bn (gF rfl _ _ _) rfl ?_
       exact⟨⟨_,rfl⟩,.inl hx⟩
     ·have Yt:¬ xq bs s:=λh=>hN (by have:=h.2.2;rw[HR.out]at this;exact this)
      have hw:uE bs s=6:=by unfold uE;rw[bj fp,HR.out,bf (λh=>h hE)]
      have K:=aH (yr IQ.out 6)
      have BU:=aH ((((ja.refl W.heap.size wr).bh BQ.out)).qS 4 (ay az 6))
      obtain⟨fn,tmps,assign,body,hy,hR⟩:=VF.out i wr _ hg.out (by rw[hi.out];exact Yt) JI.out BU.out
      rw[hi.out,hw,show((6:Nat):Int)=6 from rfl]at hy
      unfold oU at hy
      have k0:=K.out.c0
      have k1:=K.out.c1
      have k2:=K.out.c2
      have k3:=K.out.c3
      have k4:=K.out.c4
      clear hE
      gi_wp2
      refine hR.mono ?_
      rintro e W3 ⟨⟨t,rfl⟩,hz⟩
      gi_wp2
      refine bn (gF rfl _ _ _) rfl ?_
      exact⟨⟨_,rfl⟩,.inr hz⟩
    ·have Yt:¬ xq bs s:=λh=>hE (by have:=h.2.1;rw[HR.out]at this;exact this)
     have hw:uE bs s=r.err:=by unfold uE;rw[bj fp,HR.out,bj hE]
     have Gm:r.err<=5/\2<=r.err:=by
      have Wt:=Sl s.seed (bs.drop s.end_)
      have:(rF s.seed (bs.drop s.end_))=r:=HR.out
      rw[this]at Wt;omega
     have K:=aH (yr IQ.out (r.err:Int))
     have BU:=aH ((((ja.refl W.heap.size wr).bh BQ.out)).qS 4 (ay az (r.err:Int)))
     obtain⟨fn,tmps,assign,body,hy,hR⟩:=VF.out i wr _ hg.out (by rw[hi.out];exact Yt) JI.out BU.out
     rw[hi.out,hw]at hy
     unfold oU at hy
     have k0:=K.out.c0
     have k1:=K.out.c1
     have k2:=K.out.c2
     have k3:=K.out.c3
     have k4:=K.out.c4
     have HR5:=aH Gm
     have hE':¬((r.err:Nat):Int)=0:=by omega
     clear hE Gm
     gi_wp2
     refine⟨trivial,(tB.2 (Fw r.err HR5.out)).mono ?_⟩
     rintro e W2 ⟨rfl,rfl⟩
     gi_wp2
     refine hR.mono ?_
     rintro e W3 ⟨⟨t,rfl⟩,hz⟩
     gi_wp2
     refine bn (gF rfl _ _ _) rfl ?_
     exact⟨⟨_,rfl⟩,.inr hz⟩
   ·have bz:Below wr.heap.size wr (wr.alloc (aG #[ay az 0,aB ae 0 0] 72)).drew:=aM (aY wr (aG #[ay az 0,aB ae 0 0] 72)) (bi _)
    have BZ:=aH bz
    have SZ0:(wr.alloc (aG #[ay az 0,aB ae 0 0] 72)).heap.size=wr.heap.size+1:=by show(wr.heap.push _).size=_;rw[afa]
    have SZ:=aH SZ0
    have CZ:=aH (IA.out.on bz)
    have HZ:=bp wr (aG #[ay az 0,aB ae 0 0] 72)
    have Z0:=aH (show((wr.alloc (aG #[ay az 0,aB ae 0 0] 72)).drew).cell? ⟨wr.heap.size,0,ae⟩=ag (ay az 0)from aZ 0 HZ)
    have Z1:=aH (show((wr.alloc (aG #[ay az 0,aB ae 0 0] 72)).drew).cell? ⟨wr.heap.size,1,ae⟩=ag (aB ae 0 0)from aZ 1 HZ)
    have FZ:=aH (show ∀j,((wr.alloc (aG #[ay az 0,aB ae 0 0] 72)).drew).frozen? ⟨wr.heap.size,j,ae⟩=ah from λj=>bQ j HZ)
    clear bz HZ SZ0
    refine aS rfl ?_ rfl
    go_wp2_with fail
    refine⟨⟨⟨_,CZ.out⟩,rfl⟩,?_⟩
    refine aS rfl ?_ rfl
    go_wp2_with fail
    refine(uf s.seed (bs.drop s.end_) _ (cap-s.end_) rfl (XD.out.below BZ.out) cV (λh=>by cases h) (by omega) (by omega) r HR.out).mono ?_
    rintro e x1 ⟨vq,he,hO,hb⟩
    obtain⟨aq,cq,rfl,-,-,-,-,-⟩:=hO.slice
    subst he
    have Ac:wr.heap.size<((wr.alloc (aG #[ay az 0,aB ae 0 0] 72)).drew).heap.size:=by show wr.heap.size<(wr.alloc (aG #[ay az 0,aB ae 0 0] 72)).heap.size;rw[SZ.out];omega
    have CX:=aH (CZ.out.on hb)
    have z0:=bL hb Z0.out
    have z1:=bL hb Z1.out
    have fz0:=(hb.frozen (p:=⟨wr.heap.size,0,ae⟩) Ac).trans (FZ.out 0)
    have fz1:=(hb.frozen (p:=⟨wr.heap.size,1,ae⟩) Ac).trans (FZ.out 1)
    have bu:ja wr.heap.size x1 ((x1.setCell ⟨wr.heap.size,0,ae⟩ (ay az (bv r.lsn))).setCell ⟨wr.heap.size,1,ae⟩ (aB aq r.data.length cq)):=((ja.refl wr.heap.size x1).qS 0 _).qS 1 _
    have BQ:=aH (show Below wr.heap.size wr ((x1.setCell ⟨wr.heap.size,0,ae⟩ (ay az (bv r.lsn))).setCell ⟨wr.heap.size,1,ae⟩ (aB aq r.data.length cq))from((aM BZ.out hb).setCell (p:=⟨wr.heap.size,0,ae⟩) dx _).setCell (p:=⟨wr.heap.size,1,ae⟩) dx _)
    have zz:(x1.setCell ⟨wr.heap.size,0,ae⟩ (ay az (bv r.lsn))).cell? ⟨wr.heap.size,1,ae⟩=ag (aB ae 0 0):=by
     rw[dI _ _ _ _ (by intro e;injection e;omega)];exact z1
    have Q:=aH (show aa2 ((x1.setCell ⟨wr.heap.size,0,ae⟩ (ay az (bv r.lsn))).setCell ⟨wr.heap.size,1,ae⟩ (aB aq r.data.length cq)) wr.heap.size (bv r.lsn) (aB aq r.data.length cq)from⟨by
     rw[dI _ _ _ _ (by intro e;injection e;omega)];exact dE _ _ _ z0,dE _ _ _ zz⟩)
    have OQ:=aH (show cU ((x1.setCell ⟨wr.heap.size,0,ae⟩ (ay az (bv r.lsn))).setCell ⟨wr.heap.size,1,ae⟩ (aB aq r.data.length cq)) wr.heap.size (aB aq r.data.length cq) r.data from cU.base (cU.but hO bu Ac) (by omega))
    have CF:=aH (IA.out.on BQ.out)
    clear hO hb Ac bu zz
    go_wp2_with fail
    refine⟨⟨⟨_,CX.out⟩,rfl⟩,?_⟩
    refine aX 5 (by kernel_rfl) ?_
    simp only[aJ,aO,aI,aL]
    repeat (go_big_quiet_step (fail))
    refine aU ?_
    refine aS rfl ?_ rfl
    go_wp2_with fail
    refine⟨⟨⟨_,CF.out⟩,rfl⟩,?_⟩
    refine aX 3 (by kernel_rfl) ?_
    simp only[aJ,aO,aI,aL]
    repeat (go_big_quiet_step (fail))
    refine aU ?_
    refine bF ?_
    clear dF z0 z1 fz0 fz1 CX CZ CF BZ Z0 Z1 FZ SZ Wr qs1 qs2
    obtain⟨wq,lT⟩:=bP (((x1.setCell ⟨wr.heap.size,0,ae⟩ (ay az (bv r.lsn))).setCell ⟨wr.heap.size,1,ae⟩ (aB aq r.data.length cq)))
    rw[lT]at BQ Q OQ
    rw[lT]
    clear lT
    have IQ:=aH (IA.out.on BQ.out)
    have q0:=Q.out.c0
    have q1:=Q.out.c1
    have d0:=IQ.out.c0
    have d1:=IQ.out.c1
    have d2:=IQ.out.c2
    have d3:=IQ.out.c3
    have d4:=IQ.out.c4
    have f0:=IQ.out.fr 0
    have f1:=IQ.out.fr 1
    have f2:=IQ.out.fr 2
    have f3:=IQ.out.fr 3
    have f4:=IQ.out.fr 4
    clear c1 cb
    by_cases hE:r.err=0
    ·have hE':((r.err:Nat):Int)=0:=by omega
     by_cases hN:bv r.lsn=s.next
     ·have Bb:xq bs s:=⟨fp,by rw[HR.out];exact hE,by rw[HR.out];exact hN⟩
      obtain⟨yF,Uh,kA⟩:=GB Bb hk.out
      obtain⟨fn,tmps,assign,body,hy,hR⟩:=HGo.out i wr wq (aB aq r.data.length cq) hg.out (by rw[hi.out];exact Bb) JI.out IA.out.lt ((ja.refl W.heap.size wr).bh BQ.out) (by rw[hi.out,HR.out];exact OQ.out)
      rw[hi.out,HR.out,hN]at hy
      unfold oU at hy
      have NX:=aH (show mS bs s=⟨s.count+1,s.end_+r.n,s.next+1,r.sum⟩by unfold mS;rw[HR.out])
      have yD:s.end_+r.n<=bs.length:=by have:=yF.le;rw[NX.out]at this;exact this
      have t8:s.count<=s.end_:=hk.out.count
      have Wx:=hk.out.lo
      have HK2:=aH yF
      have ad0:=aH Uh
      have HGN:=aH Bb
      have CR:(s.end_:Int)+(r.n:Int)<=140737488363520:=by omega
      have QN:(s.count:Int)+1<=140737488363520:=by omega
      have hn3:s.next+1<=9223372036854775807:=by omega
      clear hE yF Uh Bb
      gi_wp2
      refine hR.mono ?_
      rintro e W3 (⟨rfl,hJ3,hk3⟩ | ⟨rfl,hx⟩)
      ·have I3:=aH (IQ.out.kept hk3)
       have J3:=aH hJ3
       clear hJ3 hk3 d0 d1 d2 d3 d4 f0 f1 f2 f3 f4 q0 q1 hy hR
       have d0:=I3.out.c0
       have d1:=I3.out.c1
       have d2:=I3.out.c2
       have d3:=I3.out.c3
       have f0:=I3.out.fr 0
       have f1:=I3.out.fr 1
       have f2:=I3.out.fr 2
       have f3:=I3.out.fr 3
       gi_wp2
       have N3:=LF I3.out ⟨s.count+1,s.end_+r.n,s.next+1,r.sum⟩
       dsimp only at N3
       simp only[Ed,Int.natCast_one]at N3
       obtain⟨n1,n2⟩:=N3
       go_roundw
       case rel=>exact⟨i+1,⟨s.count+1,s.end_+r.n,s.next+1,r.sum⟩,aH (λj hj=>by
        by_cases e:j=i
        ·subst e;rw[hi.out];exact HGN.out
        ·exact hg.out j (by omega)),aH (by show mS bs (eL bs s0 i)=_;rw[hi.out,NX.out]),aH (NX.out▸HK2.out),HJ.out (i+1) _ _ J3.out n2,n1⟩
       case measure=>
        rw[tW n1,tW IA.out]
        have:=ad0.out
        rw[NX.out]at this
        dsimp only at this ⊢
        omega
      ·gi_wp2
       refine bn (gF rfl _ _ _) rfl ?_
       exact⟨⟨_,rfl⟩,.inl hx⟩
     ·have Yt:¬ xq bs s:=λh=>hN (by have:=h.2.2;rw[HR.out]at this;exact this)
      have hw:uE bs s=6:=by unfold uE;rw[bj fp,HR.out,bf (λh=>h hE)]
      have K:=aH (yr IQ.out 6)
      have BU:=aH ((((ja.refl W.heap.size wr).bh BQ.out)).qS 4 (ay az 6))
      obtain⟨fn,tmps,assign,body,hy,hR⟩:=VF.out i wr _ hg.out (by rw[hi.out];exact Yt) JI.out BU.out
      rw[hi.out,hw,show((6:Nat):Int)=6 from rfl]at hy
      unfold oU at hy
      have k0:=K.out.c0
      have k1:=K.out.c1
      have k2:=K.out.c2
      have k3:=K.out.c3
      have k4:=K.out.c4
      clear hE
      gi_wp2
      refine hR.mono ?_
      rintro e W3 ⟨⟨t,rfl⟩,hz⟩
      gi_wp2
      refine bn (gF rfl _ _ _) rfl ?_
      exact⟨⟨_,rfl⟩,.inr hz⟩
    ·have Yt:¬ xq bs s:=λh=>hE (by have:=h.2.1;rw[HR.out]at this;exact this)
     have hw:uE bs s=r.err:=by unfold uE;rw[bj fp,HR.out,bj hE]
     have Gm:r.err<=5/\2<=r.err:=by
      have Wt:=Sl s.seed (bs.drop s.end_)
      have:(rF s.seed (bs.drop s.end_))=r:=HR.out
      rw[this]at Wt;omega
     have K:=aH (yr IQ.out (r.err:Int))
     have BU:=aH ((((ja.refl W.heap.size wr).bh BQ.out)).qS 4 (ay az (r.err:Int)))
     obtain⟨fn,tmps,assign,body,hy,hR⟩:=VF.out i wr _ hg.out (by rw[hi.out];exact Yt) JI.out BU.out
     rw[hi.out,hw]at hy
     unfold oU at hy
     have k0:=K.out.c0
     have k1:=K.out.c1
     have k2:=K.out.c2
     have k3:=K.out.c3
     have k4:=K.out.c4
     have HR5:=aH Gm
     have hE':¬((r.err:Nat):Int)=0:=by omega
     clear hE Gm
     gi_wp2
     refine⟨trivial,(tB.2 (Fw r.err HR5.out)).mono ?_⟩
     rintro e W2 ⟨rfl,rfl⟩
     gi_wp2
     refine hR.mono ?_
     rintro e W3 ⟨⟨t,rfl⟩,hz⟩
     gi_wp2
     refine bn (gF rfl _ _ _) rfl ?_
     exact⟨⟨_,rfl⟩,.inr hz⟩
  ·have hge:(bs.length:Int)<=(s.end_:Int):=by omega
   have Yt:¬ xq bs s:=λh=>fp h.1
   have hw:uE bs s=1:=by unfold uE;rw[bf fp]
   have d4:=IA.out.c4
   have f4:=IA.out.fr 4
   have K:=aH (yr IA.out 1)
   have BU:=aH ((ja.refl W.heap.size wr).qS 4 (ay az 1))
   obtain⟨fn,tmps,assign,body,hy,hR⟩:=VF.out i wr _ hg.out (by rw[hi.out];exact Yt) JI.out BU.out
   rw[hi.out,hw,show((1:Nat):Int)=1 from rfl]at hy
   unfold oU at hy
   have k0:=K.out.c0
   have k1:=K.out.c1
   have k2:=K.out.c2
   have k3:=K.out.c3
   have k4:=K.out.c4
   gi_wp2
   refine hR.mono ?_
   rintro e W3 ⟨⟨t,rfl⟩,hz⟩
   gi_wp2
   go_end0
   exact⟨⟨_,rfl⟩,.inr hz⟩
end
section
open Go Go.RowKit Go.Shelf
section
variable{P:Program}
def lu(fn:FuncId)(tmps:Array ar)(b:Array Tmp)(assign body:Code)(D:Nat)(c:LoopState)(a:Option Code):Loop:={ state:=c,pending:=a,fn,tmps,params:=b,assign,body,defers:=D }
def roundEnd(l D:Nat)(a:Loop)(N:am->Prop)(X:Code->am->Prop):Exit->Act->am->Prop
 | .normal,_,W=>W.heap[l]?=ag (.loop a)/\W.heap[D]?=ag (.deferred (ag []))/\N W
 | .ret,_,W=>W.heap[l]?=ag (.loop a)/\W.heap[D]?=ag (.deferred (ag []))/\X .ret W
 | .exit id,_,W=>W.heap[l]?=ag (.loop a)/\W.heap[D]?=ag (.deferred (ag []))/\X (.exit id) W
 | .goto t,_,W=>W.heap[l]?=ag (.loop a)/\W.heap[D]?=ag (.deferred (ag []))/\X (.goto t) W
 | .panic _,_,_=>False
 | .outgrown,_,_=>False
theorem Sd{F:Fence}{g:FuncId}{tmps:Array ar}{i:Array Tmp}{a b:Code}{D l m:Nat}{W:am}{x:Array ar}(hF:F.fn g)
 (C:W.heap[l]?=ag (.loop (lu g tmps i a b D .ready ae))) (_:W.heap[D]?=ag (.deferred (ag []))) (z:D≠l) (hx:x.size=i.size) (N:am->Prop) (X:Code->am->Prop)
 (h:a.wpIn (F.inRound l) m P (Exit.then (λA j=>j.heap[l]?=W.heap[l]?/\j.heap[D]?=W.heap[D]?/\
  b.wpIn (F.inRound l) m P (roundEnd l D (lu g tmps i a b D .busy ae) N X) A (j.putObj l (.loop (lu g tmps i a b D .busy ae)))) (λ_ _ _=>False)) { tmps:=(i.zip x).foldl (λt (p,v)=>t.setIfInBounds p v) tmps,defers:=[] } W):
 YieldAt F m P l x W λe j=>(e=aF (aC aj)/\∃f,N f/\j=f.putObj l (.loop (lu g tmps i a b D .ready ae))/\j.heap[l]?=ag (.loop (lu g tmps i a b D .ready ae))/\j.heap[D]?=ag (.deferred (ag [])))\/
  (e=aF (aC ah)/\∃c f,X c f/\j=f.putObj l (.loop (lu g tmps i a b D .done (ag c)))/\j.heap[l]?=ag (.loop (lu g tmps i a b D .done (ag c)))/\j.heap[D]?=ag (.deferred (ag []))):=by
 have K:=run_yield (P:=P) (args:=x) C hx
 refine⟨g,_,a,b,K,roundIn_of_wpIn hF (wpIn_mono h ?_)⟩
 rintro e A j w
 cases e with
 | normal=>
  obtain⟨G,M,J⟩:=w
  have E:j.heap[l]?=ag (.loop (lu g tmps i a b D .ready ae)):=G.trans C
  refine⟨_,run_beginRound E rfl,wpIn_mono J ?_⟩
  rintro H L f y
  have k:∀(d:Option Code),f.heap[l]?=ag (.loop (lu g tmps i a b D .busy ae))->f.heap[D]?=ag (.deferred (ag []))->
   (Instr.endRound l d).run P f=.ok (.bool d.isNone) (f.putObj l (.loop (lu g tmps i a b D (if d.isNone then .ready else .done) d)))/\
   (f.putObj l (.loop (lu g tmps i a b D (if d.isNone then .ready else .done) d))).heap[l]?=ag (.loop (lu g tmps i a b D (if d.isNone then .ready else .done) d))/\
   (f.putObj l (.loop (lu g tmps i a b D (if d.isNone then .ready else .done) d))).heap[D]?=ag (.deferred (ag [])):=λd B I=>
   ⟨run_endRound d B,World.putObj_heap_same (br.1 B).1,(dj z).trans I⟩
  cases H with
  | normal=>
   obtain⟨r,s,u⟩:=y
   obtain⟨n,o,q⟩:=k ae r s
   exact⟨_,_,n,.inl ⟨rfl,f,u,rfl,o,q⟩⟩
  | ret=>
   obtain⟨r,s,u⟩:=y
   obtain⟨n,o,q⟩:=k (ag .ret) r s
   exact⟨_,_,n,.inr ⟨rfl,.ret,f,u,rfl,o,q⟩⟩
  | exit id=>
   obtain⟨r,s,u⟩:=y
   obtain⟨n,o,q⟩:=k (ag (.exit id)) r s
   exact⟨_,_,n,.inr ⟨rfl,.exit id,f,u,rfl,o,q⟩⟩
  | goto t=>
   obtain⟨r,s,u⟩:=y
   obtain⟨n,o,q⟩:=k (ag (.goto t)) r s
   exact⟨_,_,n,.inr ⟨rfl,.goto t,f,u,rfl,o,q⟩⟩
  | panic ch=>exact y.elim
  | outgrown=>exact y.elim
 | ret=>exact w.elim
 | exit id=>exact w.elim
 | goto t=>exact w.elim
 | panic ch=>exact w.elim
 | outgrown=>exact w.elim
def mj(w:am)(r:Loop):am:=(w.alloc (.deferred (ag []))).alloc (.loop r)
theorem Gd(w:am)(r:Loop):(mj w r).heap[w.heap.size+1]?=ag (.loop r)/\(mj w r).heap[w.heap.size]?=ag (.deferred (ag []))/\Below w.heap.size w (mj w r)/\(mj w r).heap.size=w.heap.size+2:=by
 have a:(w.alloc (.deferred (ag []))).heap.size=w.heap.size+1:=by simp
 refine⟨?_,?_,?_,?_⟩
 ·have:=World.alloc_heap_new (w.alloc (.deferred (ag []))) (.loop r)
  rwa [a]at this
 ·exact(Below.heap_alloc _ _ _ (by simp)).trans (World.alloc_heap_new w _)
 ·exact((cX _ w).alloc dx _).alloc (by simp) _
 ·unfold mj;simp
theorem Sk{n:Nat}{g:Operand}{i:Array Tmp}{b d:Code}{Q:Exit->Act->am->Prop}{a:Act}{w:am}{j:Nat}{l:Array ar}(t:a.eval g=.func (.func j) #[] l)(p:∀args w,(callFunc j args).run P w=.ok (.enter j args) w)
 (h:∀f,CallsIn Fence.wide n P j (#[.func (.yield (w.heap.size+1)) #[] #[]]++l) (mj w (lu f a.tmps i b d w.heap.size .ready ae)) λe k=>(∃v,e=aF v)/\
  ((k.heap[w.heap.size+1]?=ag (.loop (lu f a.tmps i b d w.heap.size .ready ae))/\Q .normal { a with defers:={ target:=.collected w.heap.size,args:=#[] }::a.defers } (k.putObj (w.heap.size+1) (.loop (lu f a.tmps i b d w.heap.size .exhausted ae))))\/
   (∃c,k.heap[w.heap.size+1]?=ag (.loop (lu f a.tmps i b d w.heap.size .done (ag c)))/\c.wpIn Fence.wide (n+1) P Q { a with defers:={ target:=.collected w.heap.size,args:=#[] }::a.defers } (k.putObj (w.heap.size+1) (.loop (lu f a.tmps i b d w.heap.size .exhausted (ag c))))))):
 (Code.rangeFunc g i b d).wpIn Fence.wide (n+1) P Q a w:=by
 refine wpIn_rangeFunc ?_
 intro f s
 refine⟨w.heap.size+1,[{ target:=.collected w.heap.size,args:=#[] }],mj w (lu f a.tmps i b d w.heap.size .ready ae),{ target:=.fn (.func j) l,args:=#[.func (.yield (w.heap.size+1)) #[] #[]] },mj w (lu f a.tmps i b d w.heap.size .ready ae),j,
  #[.func (.yield (w.heap.size+1)) #[] #[]]++l,mj w (lu f a.tmps i b d w.heap.size .ready ae),?_,?_,?_,?_,λq=>(by cases q),?_⟩
 ·exact run_enterLoop_outer _ _ _ _ _
 ·simp only[resolve,t]
  simp[go_sem]
 ·intro x r;trivial
 ·simp[invoke,go_sem,p]
 ·refine(h f).mono ?_
  rintro e u ⟨⟨v,rfl⟩,(⟨m,o⟩ | ⟨c,m,o⟩)⟩
  ·exact⟨ae,_,run_endLoop m (by simp[lu]),o⟩
  ·exact⟨ag c,_,run_endLoop m (by simp[lu]),o⟩
def qg(a:Loop)(c:LoopState)(b:Option Code):Loop:={ a with state:=c,pending:=b }
theorem FM{n:Nat}{g:Operand}{m:Array Tmp}{b d:Code}{Q:Exit->Act->am->Prop}{a:Act}{w:am}{j:Nat}{l:Array ar}(p:a.eval g=.func (.func j) #[] l)(o:∀args w,(callFunc j args).run P w=.ok (.enter j args) w)
 (h:∀k f,Hid (f=lu k a.tmps m b d w.heap.size .ready ae)->CallsIn Fence.wide n P j (#[.func (.yield (w.heap.size+1)) #[] #[]]++l) (mj w f) λe i=>(∃v,e=aF v)/\
  ((i.heap[w.heap.size+1]?=ag (.loop f)/\Q .normal { a with defers:={ target:=.collected w.heap.size,args:=#[] }::a.defers } (i.putObj (w.heap.size+1) (.loop (qg f .exhausted ae))))\/
   (∃c,i.heap[w.heap.size+1]?=ag (.loop (qg f .done (ag c)))/\c.wpIn Fence.wide (n+1) P Q { a with defers:={ target:=.collected w.heap.size,args:=#[] }::a.defers } (i.putObj (w.heap.size+1) (.loop (qg f .exhausted (ag c))))))):
 (Code.rangeFunc g m b d).wpIn Fence.wide (n+1) P Q a w:=
 Sk p o λk=>(h k _ (aH rfl)).mono λ_ _ h=>h
def xk(l D:Nat)(a:Loop)(N:am->Prop)(X:Code->am->Prop):Exit->Act->am->Prop
 | .normal,_,W=>W.heap[l]?=ag (.loop (qg a .busy ae))/\W.heap[D]?=ag (.deferred (ag []))/\N W
 | .ret,_,W=>W.heap[l]?=ag (.loop (qg a .busy ae))/\W.heap[D]?=ag (.deferred (ag []))/\X .ret W
 | .exit id,_,W=>W.heap[l]?=ag (.loop (qg a .busy ae))/\W.heap[D]?=ag (.deferred (ag []))/\X (.exit id) W
 | .goto t,_,W=>W.heap[l]?=ag (.loop (qg a .busy ae))/\W.heap[D]?=ag (.deferred (ag []))/\X (.goto t) W
 | .panic _,_,_=>False
 | .outgrown,_,_=>False
theorem qX{l D:Nat}{b:Loop}{N:am->Prop}{X:Code->am->Prop}{a:Act}{W:am}(c:W.heap[l]?=ag (.loop (qg b .busy ae)))(d:W.heap[D]?=ag (.deferred (ag [])))(e:N W):xk l D b N X .normal a W:=⟨c,d,e⟩
theorem qW{l D:Nat}{b:Loop}{N:am->Prop}{X:Code->am->Prop}{a:Act}{W:am}(c:W.heap[l]?=ag (.loop (qg b .busy ae)))(d:W.heap[D]?=ag (.deferred (ag [])))(e:X .ret W):xk l D b N X .ret a W:=⟨c,d,e⟩
theorem xS{F:Fence}{o:FuncId}{tmps:Array ar}{n:Array Tmp}{b f:Code}{D l m:Nat}{W:am}{x:Array ar}{j:Loop}(A:Hid (j=lu o tmps n b f D .ready ae))(hF:F.fn o)
 (E:W.heap[l]?=ag (.loop j)) (C:W.heap[D]?=ag (.deferred (ag []))) (z:D≠l) (hx:x.size=n.size) (N:am->Prop) (X:Code->am->Prop)
 (h:b.wpIn (F.inRound l) m P (Exit.then (λB g=>g.heap[l]?=W.heap[l]?/\g.heap[D]?=W.heap[D]?/\
  f.wpIn (F.inRound l) m P (xk l D j N X) B (g.putObj l (.loop (qg j .busy ae)))) (λ_ _ _=>False)) { tmps:=(n.zip x).foldl (λt (p,v)=>t.setIfInBounds p v) tmps,defers:=[] } W):
 YieldAt F m P l x W λe g=>(e=aF (aC aj)/\∃i,i.heap[l]?=ag (.loop (qg j .busy ae))/\N i/\g=i.putObj l (.loop j)/\g.heap[l]?=ag (.loop j)/\g.heap[D]?=ag (.deferred (ag [])))\/
  (e=aF (aC ah)/\∃c i,i.heap[l]?=ag (.loop (qg j .busy ae))/\X c i/\g=i.putObj l (.loop (qg j .done (ag c)))/\g.heap[l]?=ag (.loop (qg j .done (ag c)))/\g.heap[D]?=ag (.deferred (ag []))):=by
 have q:=A.out
 subst q
 refine VU (Sd hF E C z hx (λW=>W.heap[l]?=ag (.loop (lu o tmps n b f D .busy ae))/\N W) (λc W=>W.heap[l]?=ag (.loop (lu o tmps n b f D .busy ae))/\X c W) (wpIn_mono h ?_)) ?_
 ·intro e a g k
  cases e with
  | normal=>
   refine⟨k.1,k.2.1,wpIn_mono k.2.2 ?_⟩
   intro e a i d
   cases e with
   | normal=>exact⟨d.1,d.2.1,d.1,d.2.2⟩
   | ret=>exact⟨d.1,d.2.1,d.1,d.2.2⟩
   | exit id=>exact⟨d.1,d.2.1,d.1,d.2.2⟩
   | goto t=>exact⟨d.1,d.2.1,d.1,d.2.2⟩
   | panic ch=>exact d
   | outgrown=>exact d
  | ret=>exact k
  | exit id=>exact k
  | goto t=>exact k
  | panic ch=>exact k
  | outgrown=>exact k
 ·rintro e g (⟨rfl,i,⟨r,s⟩,u,w,y⟩ | ⟨rfl,c,i,⟨r,s⟩,u,w,y⟩)
  ·exact .inl ⟨rfl,i,r,s,u,w,y⟩
  ·exact .inr ⟨rfl,c,i,r,s,u,w,y⟩
attribute [irreducible] xk
end
end
section
open Go.RowKit Go.Shelf
attribute [local go_sem] Oper.semAt_some
def MJ(bs:List (BitVec 8))(a:tj)(i:Nat):Prop:=(∀j,j<i->xq bs (eL bs a j))/\¬ xq bs (eL bs a i)
def rI(w:am)(b:Option Addr)(n a:Nat)(base:Int)(seed:BitVec 32):am:=
 ((w.alloc (aG #[aB b n a] 48)).alloc (aG #[ay az base] 2)).alloc (aG #[ay .u32 (bv seed)] 211)
theorem Ql(w:am)(b:Option Addr)(n a:Nat)(base:Int)(seed:BitVec 32):
 (rI w b n a base seed).cell? ⟨w.heap.size,0,ae⟩=ag (aB b n a)/\(rI w b n a base seed).cell? ⟨w.heap.size+1,0,ae⟩=ag (ay az base)/\(rI w b n a base seed).cell? ⟨w.heap.size+2,0,ae⟩=ag (ay .u32 (bv seed))/\
  Below w.heap.size w (rI w b n a base seed)/\(rI w b n a base seed).heap.size=w.heap.size+3:=by
 have h:(w.alloc (aG #[aB b n a] 48)).heap.size=w.heap.size+1:=by simp
 have i:((w.alloc (aG #[aB b n a] 48)).alloc (aG #[ay az base] 2)).heap.size=w.heap.size+2:=by simp
 have g:=bp w (aG #[aB b n a] 48)
 have d:=bp (w.alloc (aG #[aB b n a] 48)) (aG #[ay az base] 2)
 have e:=bp ((w.alloc (aG #[aB b n a] 48)).alloc (aG #[ay az base] 2)) (aG #[ay .u32 (bv seed)] 211)
 have f:=aY w (aG #[aB b n a] 48)
 have c:=aY (w.alloc (aG #[aB b n a] 48)) (aG #[ay az base] 2)
 have b3:=aY ((w.alloc (aG #[aB b n a] 48)).alloc (aG #[ay az base] 2)) (aG #[ay .u32 (bv seed)] 211)
 rw[h]at d
 rw[i]at e
 exact⟨bL b3 (bL c (aZ 0 g)),bL b3 (aZ 0 d),aZ 0 e,aM f (aM c b3),by unfold rI;simp⟩
theorem I8(b:Option Addr)(n a:Nat)(base:Int)(seed:BitVec 32){w:am}:
 aw ax 125 #[aB b n a,ay az base,ay .u32 (bv seed)] w λe w'=>e=aF (.func (.func 159) #[] #[aA (ag ⟨w.heap.size+1,0,ae⟩),aA (ag ⟨w.heap.size+2,0,ae⟩),aA (ag ⟨w.heap.size,0,ae⟩)])/\w'=rI w b n a base seed:=by
 go_in
 go_wp2_with fail
 go_ret
 exact⟨rfl,rfl⟩
theorem ti(W:am)(l:Nat)(o:Obj)(_:l<W.heap.size):ja l W (W.putObj l o):=
 ⟨rfl,rfl,rfl,by simp,λk _ a=>dj a⟩
theorem Ok(W:am)(cs:Array ar)(T:au)(l:Nat)(o:Obj)(b:l<W.heap.size):
 ((W.alloc (.cells cs T)).putObj l o).heap[W.heap.size]?=ag (.cells cs T (0,0))/\ja l W ((W.alloc (.cells cs T)).putObj l o)/\((W.alloc (.cells cs T)).putObj l o).heap[l]?=ag o/\(W.alloc (.cells cs T)).heap[l]?=W.heap[l]?:=by
 have c:(W.alloc (.cells cs T)).heap.size=W.heap.size+1:=by simp
 have a:=aY W (.cells cs T)
 exact⟨(dj (by omega)).trans (bp W _),((ja.refl l W).bh a).trans (ti _ l o (by omega)),World.putObj_heap_same (by omega),a.block l b⟩
def nN(s:tj)(y:Int):Array ar:=#[ay az s.count,ay az s.end_,ay az s.next,ay .u32 (bv s.seed),ay az y]
end
end Go.Proofs.YtooinenkenobaaaGreat

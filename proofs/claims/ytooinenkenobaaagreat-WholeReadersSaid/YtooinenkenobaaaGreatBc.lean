/- A part of the proof of what LawWholeReaders says. -/
import Derived.Test.YtooinenkenobaaaGreatAa
import Derived.Test.YtooinenkenobaaaGreatBb
import Derived.Test.YtooinenkenobaaaGreatBa
import Derived.Test.YtooinenkenobaaaGreatRows
set_option maxRecDepth 100000
set_option maxHeartbeats 20000000
namespace Go.Proofs.YtooinenkenobaaaGreat
open Option renaming none->ae,some->ag
open Bool renaming false->ah,true->aj
open Go.Proofs.Tryz renaming prog->ax
open Go.Value renaming int->ay,pointer->aA,slice->aB,bool->aC,float->aD
open Go.IntKind renaming i64->az
open Go.FloatKind renaming f64->aE
open Go.Ending renaming returned->aF
open Go.Obj renaming cells->aG
open Go renaming World->am,Value->ar,TypeId->au,Calls->aw
section
open Go.RowKit
theorem cD.take{w:am}{d:Option Addr}{bs:List (BitVec 8)}(h:cD w d bs)(m:Nat):cD w d (bs.take m):=λi g=>by
 have a:i<m/\i<bs.length:=by simp at g;omega
 obtain⟨b,c,e,f⟩:=h i a.2
 refine⟨b,c,e,f.trans ?_⟩
 congr 3
 unfold sh
 simp[a.1]
end
section
open Go.RowKit
def QJ(n:BitVec 64)(i:Nat):BitVec 8:=(n >>> (8*i)).setWidth 8
def cK(n:BitVec 64)(size:Nat):List (BitVec 8):=(List.range size).map (QJ n)
theorem dN(n:BitVec 64)(size:Nat):(cK n size).length=size:=by simp[cK]
theorem Bi(n:BitVec 64)(size i:Nat)(h:i<size):sh (cK n size) i=QJ n i:=by
 unfold cK sh;simp[h]
theorem GH(n:BitVec 64)(k:Nat):cK n k++[QJ n k]=cK n (k+1):=by
 simp[cK,List.range_succ]
theorem wD(x:BitVec 8):IntKind.u8.wrap (bv x+128)=bv (x+128#8):=by
 unfold bv
 rw[IntKind.wrap_u8',BitVec.toNat_add,Int.natCast_emod,Ed]
 rfl
attribute [go_sem] wD
theorem J'(x:BitVec 64)(j:Nat):bv x/2^j=bv (x >>> j):=by
 unfold bv
 rw[sB,qJ,Int.natCast_ediv,Int.natCast_pow]
 rfl
attribute [go_sem] J'
theorem Oz{w wr:am}{g size:Nat}{n:BitVec 64}(h:xc w wr g size (λi=>G' (QJ n i)) size):Qu w wr g (cK n size):=
 ⟨h.below,h.own,by rw[dN];exact h.there,λi a=>by
  rw[dN]at a
  rw[h.cells i a,Bi n size i a];rfl⟩
theorem xD(n:BitVec 64)(size:Nat){w:am}(s:size<=8):
 aw ax 180 #[ay .u64 (bv n),ay az size] w λe w'=>∃g,e=aF (aB (ag ⟨g,0,ae⟩) size size)/\Qu w w' g (cK n size):=by
 obtain⟨q,c,j,d,f⟩:=sy Tryz.rk
 have o:∀u:am,(Instr.makeSlice 48 (ay az (size:Int)) (ay az (size:Int))).run ax u=
  .ok (aB (ag ⟨u.heap.size,0,ae⟩) size size) (u.alloc (aG (madeCells #[ay .u8 0] size) 5)):=λu=>by
  have h:=run_make (P:=ax) u 48 5 q (ay .u8 0) Tryz.underlying48 c j .i64 .i64 (size:Int) (size:Int) (by omega) (Q9 _) (by rw[f];omega) (by omega)
  simpa[d,Value.cells]using h
 have l:Hid (xc w (w.alloc (aG (madeCells #[ay .u8 0] size) 5)) w.heap.size size (λi=>G' (QJ n i)) 0):=xc.start _ _ size (by simp[madeCells]) _
 clear c j d f
 go_in
 go_wp2_with fail
 go_loopw [11] (λi wr=>∃k:Nat,k<=size/\i=ay az k/\Hid (xc w wr w.heap.size size (λi=>G' (QJ n i)) k)) (λi _=>size-(intOf i).toNat)
 case atStart=>exact⟨0,by omega,rfl,l⟩
 case round=>
  obtain⟨k,r,rfl,a⟩:=hrel
  by_cases b:k<size
  ·obtain⟨u,t,p⟩:=a.out.at b
   have m:Hid (xc w (wr.setCell ⟨w.heap.size,k,ae⟩ (ay .u8 (bv ((n >>> (8*k)).setWidth 8)))) w.heap.size size (λi=>G' (QJ n i)) (k+1)):=a.out.next b
   go_wp2_with fail
   go_roundw
   case rel=>exact⟨k+1,by omega,by go_num,m⟩
   case measure=>simp[intOf];omega
  ·obtain rfl:k=size:=by omega
   go_wp2_with fail
   go_ret
   exact⟨_,rfl,Oz a.out⟩
theorem WX(n:BitVec 64)(w:am):
 aw ax 150 #[ay .u64 (bv n)] w λe w'=>∃g,e=aF (aB (ag ⟨g,0,ae⟩) 8 8)/\Qu w w' g (cK n 8):=by
 go_in
 go_wp2_with fail
 refine(xD n 8 (by omega)).mono ?_
 rintro e c ⟨g,rfl,a⟩
 have b:=aH a
 clear a
 go_wp2_with fail
 go_ret
 exact⟨g,rfl,b.out⟩
theorem BK(n:BitVec 32)(w:am):
 aw ax 151 #[ay .u32 (bv n)] w λe w'=>∃g,e=aF (aB (ag ⟨g,0,ae⟩) 4 4)/\Qu w w' g (cK (n.setWidth 64) 4):=by
 go_in
 go_wp2_with fail
 refine(xD (n.setWidth 64) 4 (by omega)).mono ?_
 rintro e c ⟨g,rfl,a⟩
 have b:=aH a
 clear a
 go_wp2_with fail
 go_ret
 exact⟨g,rfl,b.out⟩
end
section
def nQ:List (BitVec 8)->Nat
 | []=>0
 | c::r=>c.toNat+256*nQ r
def leB(bs:List (BitVec 8)):BitVec 64:=BitVec.ofNat 64 (nQ bs)
theorem yk(xs ys:List (BitVec 8)):nQ (xs++ys)=nQ xs+256^xs.length*nQ ys:=by
 induction xs with
 | nil=>simp[nQ]
 | cons c r ih=>rw[eF,nQ,nQ,ih,bV,Nat.pow_succ,Nat.mul_add,fR (256^r.length) 256,ig];omega
theorem uN(xs:List (BitVec 8)):nQ xs<256^xs.length:=by
 induction xs with
 | nil=>simp[nQ]
 | cons c r ih=>
  have:=c.isLt
  rw[nQ,bV,Nat.pow_succ]
  omega
theorem rg{xs:List (BitVec 8)}(h:xs.length<=8):(leB xs).toNat=nQ xs:=by
 unfold leB
 rw[fk]
 have a:=uN xs
 have b:256^xs.length<=256^8:=p9 (by decide) h
 exact dD (by omega)
theorem Tl(xs:List (BitVec 8))(c:BitVec 8)(h:xs.length<8):leB xs ||| (c.setWidth 64 <<< (8*xs.length))=leB (xs++[c]):=by
 apply oL
 rw[rg (by simp;omega),BitVec.toNat_or,rg (by omega),aeo,ZC,gI,yk]
 have g:=c.isLt
 have d:(256:Nat)^xs.length=2^(8*xs.length):=by rw[Nat.pow_mul]
 have b:=uN xs
 rw[d]at b
 have e:(2:Nat)^(8*xs.length)<=2^56:=p9 (by decide) (by omega)
 have f:c.toNat*2^(8*xs.length)<=255*2^56:=jU (by omega) e
 rw[dD (a:=c.toNat) (by omega),dD (by omega),d]
 have:=Nat.two_pow_add_eq_or_of_lt b c.toNat
 rw[fR,Nat.or_comm,<-this]
 simp[nQ]
 omega
theorem o0(n:BitVec 64)(size:Nat):nQ (cK n size)=n.toNat%256^size:=by
 induction size with
 | zero=>simp[cK,nQ,Nat.mod_one]
 | succ k ih=>
  rw[<-GH,yk,ih,dN]
  simp only[nQ,QJ,gI,sB,qJ,Nat.mul_zero,fD]
  have c:(2:Nat)^(8*k)=256^k:=by rw[Nat.pow_mul]
  rw[c]
  exact(Nat.mod_mul (x:=n.toNat) (a:=256^k) (b:=256)).symm
theorem Gf(n:BitVec 64):leB (cK n 8)=n:=by
 apply oL
 rw[rg (by rw[dN];omega),o0]
 exact dD n.isLt
end
section
open Go.RowKit
theorem Td(b:Nat)(bs:List (BitVec 8))(k size:Nat){w:am}(l:nD w b bs k 0)(p:bs.length<=140737488355328)(z:k+size<=bs.length)(E:size<=8):
 aw ax 169 #[aA (ag ⟨b,0,ae⟩),ay az size] w λx w'=>x=aF (ay .u64 (bv (leB ((bs.drop k).take size))))/\Ar b 1 (ay az (k+size:Nat)) w w':=by
 have d:=aH l
 have r:=aH p
 have G:size<=bs.length-k:=by omega
 clear l p
 go_in
 go_wp2_with fail
 refine(FI b bs k d.out).mono ?_
 rintro x J ⟨C,u,rfl,o,y,I,B,nd,rfl⟩
 have q:=aH o
 clear o y
 go_wp2_with fail
 go_loopw [6,7,17] (λn j i wr=>∃t:Nat,t<=size/\i=ay az t/\n=ay .u64 (bv (leB ((bs.drop k).take t)))/\wr=w.drewN nd) (λ_ _ i _=>size-(intOf i).toNat)
 case atStart=>exact⟨0,by omega,rfl,rfl,rfl⟩
 case round=>
  obtain⟨t,H,rfl,rfl,rfl⟩:=hrel
  by_cases D:t<size
  ·have c:(bs.drop k).length=bs.length-k:=by simp
   have a:t<(bs.drop k).length:=by omega
   obtain⟨g,A,rfl,F⟩:=q.out t a
   have f:=aH (Tl ((bs.drop k).take t) (sh (bs.drop k) t) (by simp;omega))
   have e:=aH (show((bs.drop k).take t).length=t by simp;omega)
   have h:=aH (show(bs.drop k).take t++[sh (bs.drop k) t]=(bs.drop k).take (t+1)by
    rw[rW a,List.take_append_getElem])
   rw[e.out,h.out]at f
   clear c a e h
   go_wp2_with fail
   go_roundw
   case rel=>exact⟨t+1,by omega,by go_num,by rw[f.out],trivial⟩
   case measure=>simp[intOf];omega
  ·obtain rfl:t=size:=by omega
   go_wp2_with fail
   refine(FG b bs k t 0 (d.out.on (below_drewN _ _)) z r.out).mono ?_
   rintro x K ⟨rfl,m⟩
   have s:=aH m
   clear m
   go_wp2_with fail
   go_ret
   exact⟨rfl,s.out.aaO (below_drewN _ _) d.out.lt⟩
theorem JP(b:Nat)(bs:List (BitVec 8))(k:Nat)(w:am)(j:nD w b bs k 0)(l:bs.length<=140737488355328)(r:k+4<=bs.length):
 aw ax 138 #[aA (ag ⟨b,0,ae⟩)] w λx w'=>x=aF (ay .u32 (bv ((leB ((bs.drop k).take 4)).setWidth 32)))/\Ar b 1 (ay az (k+4:Nat)) w w':=by
 have a:=aH j
 have n:=aH l
 have c:=aH (K8 w (ag ⟨b,0,ae⟩) (ay .u32 0) 298 211)
 clear j l
 go_enter_defers Tryz.func138,Tryz.ntmps138
 go_wp2_with fail
 refine(Td b bs k 4 (a.out.on c.out.below) n.out r (by omega)).mono ?_
 rintro x i ⟨rfl,h⟩
 have o:=aH h
 obtain⟨q,p,s⟩:=c.out.but a.out.lt h.but
 clear h
 go_wp2_with fail
 have g:(i.setCell ⟨w.heap.size+1,0,ae⟩ (ay .u32 (bv ((leB ((bs.drop k).take 4)).setWidth 32)))).cell? ⟨w.heap.size,0,ae⟩=ag (aA (ag ⟨b,0,ae⟩)):=by
  rw[dI _ _ _ _ (by intro e;injection e;omega)];exact q
 refine leaves_cons (f:=167) (args:=#[aA (ag ⟨w.heap.size,0,ae⟩),aA (ag ⟨w.heap.size+1,0,ae⟩)]) (by simp) (by simp[go_sem]) ?_
 refine(CK g).mono ?_
 rintro e t u ⟨rfl,rfl,rfl⟩
 have d:(i.setCell ⟨w.heap.size+1,0,ae⟩ (ay .u32 (bv ((leB ((bs.drop k).take 4)).setWidth 32)))).cell? ⟨w.heap.size+1,0,ae⟩=ag (ay .u32 (bv ((leB ((bs.drop k).take 4)).setWidth 32))):=dE _ _ _ p
 have m:Ar b 1 (ay az (k+4:Nat)) w (i.setCell ⟨w.heap.size+1,0,ae⟩ (ay .u32 (bv ((leB ((bs.drop k).take 4)).setWidth 32)))).drew:=(o.out.wrap c.out.below a.out.lt (by simp)).drew
 simp[Leaves,settle,results,Tryz.results138,go_sem,d]
 exact m
theorem td(b:Nat)(bs:List (BitVec 8))(k:Nat){w:am}(j:nD w b bs k 0)(l:bs.length<=140737488355328)(r:k+8<=bs.length):
 aw ax 189 #[aA (ag ⟨b,0,ae⟩)] w λx w'=>x=aF (ay .u64 (bv (leB ((bs.drop k).take 8))))/\Ar b 1 (ay az (k+8:Nat)) w w':=by
 have a:=aH j
 have n:=aH l
 have c:=aH (K8 w (ag ⟨b,0,ae⟩) (ay .u64 0) 298 236)
 clear j l
 go_enter_defers Tryz.func189,Tryz.ntmps189
 go_wp2_with fail
 refine(Td b bs k 8 (a.out.on c.out.below) n.out r (by omega)).mono ?_
 rintro x i ⟨rfl,h⟩
 have o:=aH h
 obtain⟨q,p,s⟩:=c.out.but a.out.lt h.but
 clear h
 go_wp2_with fail
 have g:(i.setCell ⟨w.heap.size+1,0,ae⟩ (ay .u64 (bv (leB ((bs.drop k).take 8))))).cell? ⟨w.heap.size,0,ae⟩=ag (aA (ag ⟨b,0,ae⟩)):=by
  rw[dI _ _ _ _ (by intro e;injection e;omega)];exact q
 refine leaves_cons (f:=191) (args:=#[aA (ag ⟨w.heap.size,0,ae⟩),aA (ag ⟨w.heap.size+1,0,ae⟩)]) (by simp) (by simp[go_sem]) ?_
 refine(CJ g).mono ?_
 rintro e t u ⟨rfl,rfl,rfl⟩
 have d:(i.setCell ⟨w.heap.size+1,0,ae⟩ (ay .u64 (bv (leB ((bs.drop k).take 8))))).cell? ⟨w.heap.size+1,0,ae⟩=ag (ay .u64 (bv (leB ((bs.drop k).take 8)))):=dE _ _ _ p
 have m:Ar b 1 (ay az (k+8:Nat)) w (i.setCell ⟨w.heap.size+1,0,ae⟩ (ay .u64 (bv (leB ((bs.drop k).take 8))))).drew:=(o.out.wrap c.out.below a.out.lt (by simp)).drew
 simp[Leaves,settle,results,Tryz.results189,go_sem,d]
 exact m
end
section
open Go.RowKit
theorem cU.but{w w':am}{base c:Nat}{v:ar}{bs:List (BitVec 8)}(h:cU w base v bs)(f:ja c w w')(k:c<base):cU w' base v bs:=by
 refine⟨h.1,?_⟩
 rcases h.2 with e | ⟨g,a,b,j,i,d,r⟩
 ·exact .inl e
 ·exact .inr ⟨g,a,b,j,i,(f.block g (br.1 d).1 (by omega)).trans d,r⟩
end
section
open Go.ChangeShapes Go.WideShapes Go.ChangeAt Go.RowKit
theorem Pl:ownKnob Tryz.prog.godebug=ae:=by kernel_rfl
theorem Ag:laidOutB ax=aj:=by kernel_rfl
def lH(w:am)(e:Ending)(w':am):Prop:=e=aF (aC aj)/\Below w.heap.size w w'
theorem A9{x:Int}(h:(Lit.int .i64 x).wf=aj):-9223372036854775808<=x/\x<=9223372036854775807:=by
 simp[Lit.wf,IntKind.min,IntKind.max,IntKind.signed,IntKind.bits]at h;omega
section
variable{H:Type}{enc:au×ar->H}
theorem sD{W a:am}(c:Below W.heap.size W a):∀(ts:List au) (vs:List ar) (ds:List (DataW H)) (p:List MemPlace),(∀t∈ts,Tryz.prog.readableRec t=aj/\t<Tryz.prog.types.size)->
 DataW.TrodAll enc ax W 0 (λ_=>aj) aj ts vs ds p->(∀x∈p,x.block<W.heap.size)->DataW.TrodAll enc ax a 0 (λb=>decide (b<W.heap.size)) aj ts vs ds p
 | [],[],[],_,_,h,_=>h
 | t::ts,v::vs,d::ds,_,hr,h,hl=>by
  obtain⟨p,q,e,f,rfl⟩:=h
  exact⟨p,q,Below.trod Ag (hr t (by simp)).1 (hr t (by simp)).2 e c (λx hx=>hl x (by simp[hx])),
   sD c ts vs ds q (λt g=>hr t (by simp[g])) f (λx hx=>hl x (by simp[hx])),rfl⟩
 | [],_::_,_,_,_,h,_=>h.elim
 | [],[],_::_,_,_,h,_=>h.elim
 | _::_,[],_,_,_,h,_=>h.elim
 | _::_,_::_,[],_,_,h,_=>h.elim
theorem Tm(f:Func)(s:ChangeSpec)(w:s.vars=[])(i:f.resultTypes=#[4])(d:∀t∈f.params.toList,Tryz.prog.readableRec t=aj/\t<Tryz.prog.types.size)
 {W k:am} {args:Array ar} {b c:List (DataW H)} {a:List MemPlace} (e:DataW.Whole enc ax f.params.toList s.vars ah W args.toList b c a)
 (u:(s.fn H (b++c)).results=[.lit (.bool aj)]) (ha:(s.fn H (b++c)).args=b) (j:(s.fn H (b++c)).vars=[]) (l:Below W.heap.size W k):
 s.post enc ax f ah aj ah ah W args (aC aj) k:=by
 have m:∀x∈a,x.block<W.heap.size:=λx hx=>e.lt x hx
 have g:=e
 obtain⟨p,q,n,y,rfl,o,r⟩:=e
 refine⟨b,c,p++q,[],p,[],g,?_,?_,?_,l.frame _,λh=>by cases h⟩
 ·rw[u,i]
  exact trodAll_mk1 (shut_bool Tryz.underlying4 _)
 ·rw[ha]
  exact sD l _ _ _ _ d n (λx hx=>m x (by simp[hx]))
 ·rw[j,w];exact rfl
end
end
section
open Go.ChangeShapes Go.WideShapes Go.ChangeAt Go.RowKit Go.Deep
section
variable{H:Type}{enc:au×ar->H}
def Reach(t:au)(d:DataW H):Prop:=∀m∈d.weights ax t,m<=reachBytes
theorem Sf{b:List au}{a:List (DataW H)}(h:(DataW.weightsEach ax b a).all (·<=reachBytes)=aj){j:Nat}{t:au}{d:DataW H}(f:b[j]?=ag t)(c:a[j]?=ag d):Reach t d:=λm e=>by
 have:=List.all_eq_true.1 h _ (DataW.weights_mem_each f c m e)
 simpa using this
theorem On{t e:au}(c:Tryz.prog.underlying t=ag (.slice e)){a b:List (DataW H)}(h:Reach t (.slice a b)):(a.length+b.length)*Tryz.prog.bytesOf e<=reachBytes:=
 h _ (by simp[DataW.weights,c])
theorem Om{W:am}{t e:au}{k:IntKind}{o:Nat}{v:ar}{d:DataW H}{p:List MemPlace}(C:Tryz.prog.underlying t=ag (.slice e))(F:Tryz.prog.underlying e=ag (.int k))(s:Tryz.prog.cellsOf e=1)
 (h:DataW.trod enc ax W 0 (λ_=>aj) aj o t [v]=ag (d,p)) (J:Reach t d):
 ∃(y:Option Addr) (m:List Int) (f:Nat),v=.slice y m.length f/\(∀i,i<m.length->∃b n,y=ag ⟨b,n,ae⟩/\W.cell? ⟨b,n+i,ae⟩=ag (.int k (m.getD i 0)))/\(y=ae->f=0)/\m.length<=f/\f*Tryz.prog.bytesOf e<=reachBytes/\f<=maxLen/\∀z∈m,(Lit.int k z).wf=aj:=by
 rcases open_ints C F s h with⟨a,hx⟩ | ⟨x,l,c,m,a,_,G,I,q,hx,g,A⟩
 ·injection a with a;subst a
  exact⟨ae,[],0,rfl,λi u=>by simp at u,λ_=>rfl,bT _,by omega,by simp[maxLen],λz q=>by simp at q⟩
 ·injection a with a;subst a
  have K:m.length=c:=by simpa using q
  injection hx with E L;subst E
  have B:=On C J
  have j:(m.take l).length=l:=by simp;omega
  have D:(lits (H:=H) k (m.take l)).length+(lits (H:=H) k (m.drop l)).length=c:=by simp[lits];omega
  rw[D]at B
  refine⟨ag x,m.take l,c,by rw[j],λi u=>?_,(λh=>by cases h),by rw[j];exact G,B,I,λz q=>A z (Az q)⟩
  rw[j]at u
  obtain⟨b,n,r⟩:=x
  have w:r=ae:=by simpa[Addr.add]using World.cell?_spot (g 0 (by omega))
  subst w
  have s:=g i (by omega)
  rw[VW]at s
  refine⟨b,n,rfl,s.trans ?_⟩
  simp[u]
end
end
section
open Go.ChangeShapes Go.WideShapes Go.ChangeAt Go.RowKit Go.Deep
def atI(L:List Int)(i:Nat):Int:=L.getD i 0
def VC(w:am)(c:Option Addr)(L:List Int):Prop:=
 ∀i,i<L.length->(-9223372036854775808<=atI L i/\atI L i<=9223372036854775807)/\∃b a,c=ag ⟨b,a,ae⟩/\w.cell? ⟨b,a+i,ae⟩=ag (.int .i64 (atI L i))
section
variable{H:Type}{enc:au×ar->H}
theorem uk:Tryz.prog.cellsOf 3=1:=by kernel_rfl
theorem U1:Tryz.prog.bytesOf 3=8:=by kernel_rfl
theorem FK{W:am}{f:Nat}{v:ar}{d:DataW H}{p:List MemPlace}(h:DataW.trod enc ax W 0 (λ_=>aj) aj f 31 [v]=ag (d,p))(r:Reach 31 d):
 ∃(c:Option Addr) (L:List Int) (a:Nat),v=.slice c L.length a/\VC W c L/\(c=ae->a=0)/\L.length<=a/\a<=17592186043904:=by
 obtain⟨c,l,a,rfl,g,q,o,n,u,s⟩:=Om Tryz.underlying31 Tryz.underlying3 uk h r
 rw[U1]at n
 have m:reachBytes=140737488351232:=by decide
 refine⟨c,l,a,rfl,λi j=>?_,q,o,by omega⟩
 obtain⟨b,k,e,g⟩:=g i j
 refine⟨?_,b,k,e,g⟩
 have t:atI l i=l[i]:=by unfold atI;simp[j]
 rw[t];exact A9 (s _ (qH j))
end
end
section
open Go.ChangeShapes Go.WideShapes Go.ChangeAt Go.RowKit Go.Deep
section
variable{H:Type}{enc:au×ar->H}
end
end
section
open Go.RowKit
theorem dC{w w':am}{base n size:Nat}{e:au}{v:ar}{xs:List ar}(h:w.ownsRow base e size v n xs)(f:∀g,v.ownBlock=ag g->w'.heap[g]?=w.heap[g]?):w'.ownsRow base e size v n xs:=by
 refine⟨h.1,?_⟩
 rcases h.2 with d | ⟨g,a,b,c,i,j,r⟩
 ·exact .inl d
 ·exact .inr ⟨g,a,b,c,i,(f g (by rw[c];rfl)).trans j,r⟩
theorem dq{w:am}{base n size g:Nat}{e:au}{v:ar}{xs:List ar}(h:w.ownsRow base e size v n xs)(b:v.ownBlock=ag g):base<=g/\∃a,w.heap[g]?=ag (.cells a e (0,0)):=by
 rcases h.2 with⟨d,_⟩ | ⟨g',c,a,j,f,i,r⟩
 ·rw[d]at b;cases b
 ·rw[j]at b
  have:g'=g:=by simpa[Value.ownBlock]using b
  subst this
  exact⟨f,a,i⟩
theorem aT{w:am}{g:Nat}{o:Obj}(h:w.heap[g]?=ag o):g<w.heap.size:=(br.1 h).1
section
variable{w w':am}{kb lo z:Nat}{lv:ar}{xs:List ar}
end
theorem Tryz.acv:(Tryz.prog.info? 48).map (λi=>(i.zero,i.size,i.bytes))=ag (ag (aB ae 0 0),1,24):=by kernel_rfl
structure jo where
 num:Int
 base:Int
 seed:BitVec 32
 end_:Int
 size:Int
structure xg where
 gen:Int
 first:Int
 l9:List jo
def alI:jo:=⟨0,0,0#32,0,0⟩
def di(L:List jo)(i:Nat):jo:=L.getD i alI
def jG(s:jo):Prop:=1<=s.num/\1<=s.base/\s.base<=s.end_/\32<=s.size/\s.size<=2147483647
def qZ(s:jo):Prop:=1<=s.num/\1<=s.base/\s.end_=0/\s.size=0
def Th(s t:jo):Prop:=jG s/\s.num≠9223372036854775807/\t.num=s.num+1/\t.base=s.end_
structure zx(c:xg):Prop where
 gen:1<=c.gen
 first:1<=c.first
 some:1<=c.l9.length
 Mj:c.l9.length<=64
 last:qZ (di c.l9 (c.l9.length-1))
 link:∀i,i+1<c.l9.length->Th (di c.l9 i) (di c.l9 (i+1))
 low:(di c.l9 0).base<=c.first
 high:c.l9.length=1\/c.first<=(di c.l9 0).end_
theorem zx.Fy{c:xg}(h:zx c):∀k i,i+k<c.l9.length->(di c.l9 i).base<=(di c.l9 (i+k)).base
 | 0,_,_=>Q9 _
 | k+1,i,hk=>by
  have b:=h.Fy k i (by omega)
  obtain⟨⟨_,_,d,_⟩,_,_,a⟩:=h.link (i+k) (by omega)
  rw[show i+(k+1)=i+k+1 by omega,a]
  omega
def AtC(c:xg)(lsn:Int)(i:Nat):Prop:=i<c.l9.length/\(di c.l9 i).base<=lsn/\∀j,i<j->j<c.l9.length->lsn<(di c.l9 j).base
def BR(s:jo):ar:=.agg #[ay az s.num,ay az s.base,ay .u32 (bv s.seed),ay az s.end_,ay az s.size]
instance (s:jo):Decidable (jG s):=by unfold jG;infer_instance
instance (s:jo):Decidable (qZ s):=by unfold qZ;infer_instance
theorem U0(s:jo)(w:am):aw ax 95 #[BR s] w λe w'=>e=aF (aC (decide (qZ s)))/\Below w.heap.size w w':=by
 obtain⟨a,base,seed,d,size⟩:=s
 have i:=aY w (aG #[ay az a,ay az base,ay .u32 (bv seed),ay az d,ay az size] 221)
 have b:=aH i
 have f:=bp w (aG #[ay az a,ay az base,ay .u32 (bv seed),ay az d,ay az size] 221)
 have k:=aZ 0 f
 have l:=aZ 1 f
 have m:=aZ 3 f
 have n:=aZ 4 f
 clear i f
 obtain⟨t,h⟩:=bP (decide (qZ ⟨a,base,seed,d,size⟩))
 rw[h]
 have c:=aH h
 clear h
 unfold BR
 dsimp only
 go_in
 by_cases o:1<=a
 ·by_cases p:1<=base
  ·by_cases g:d=0
   ·by_cases j:size=0
    ·subst g j
     go_wp2_with fail
     go_ret
     exact⟨by rw[show t=aj from by rw[<-c.out];exact bM (by unfold qZ;dsimp only;omega)];rfl,b.out⟩
    ·have b4:(size==0)=ah:=beq_false_of_ne j
     subst g
     go_wp2_with fail
     go_ret
     exact⟨by rw[show t=ah from by rw[<-c.out];exact bC (by unfold qZ;dsimp only;omega)];rfl,b.out⟩
   ·have b3:(d==0)=ah:=beq_false_of_ne g
    go_wp2_with fail
    go_ret
    exact⟨by rw[show t=ah from by rw[<-c.out];exact bC (by unfold qZ;dsimp only;omega)];rfl,b.out⟩
  ·go_wp2_with fail
   go_ret
   exact⟨by rw[show t=ah from by rw[<-c.out];exact bC (by unfold qZ;dsimp only;omega)];rfl,b.out⟩
 ·go_wp2_with fail
  go_ret
  exact⟨by rw[show t=ah from by rw[<-c.out];exact bC (by unfold qZ;dsimp only;omega)];rfl,b.out⟩
theorem JX(s:jo){w:am}:aw ax 96 #[BR s] w λe w'=>e=aF (aC (decide (jG s)))/\Below w.heap.size w w':=by
 obtain⟨a,base,seed,d,size⟩:=s
 have i:=aY w (aG #[ay az a,ay az base,ay .u32 (bv seed),ay az d,ay az size] 221)
 have b:=aH i
 have f:=bp w (aG #[ay az a,ay az base,ay .u32 (bv seed),ay az d,ay az size] 221)
 have o:=aZ 0 f
 have p:=aZ 1 f
 have q:=aZ 3 f
 have r:=aZ 4 f
 clear i f
 obtain⟨t,g⟩:=bP (decide (jG ⟨a,base,seed,d,size⟩))
 rw[g]
 have c:=aH g
 clear g
 unfold BR
 dsimp only
 go_in
 by_cases h:1<=a/\1<=base/\base<=d/\32<=size/\size<=2147483647
 ·obtain⟨j,k,l,m,n⟩:=h
  go_wp2_with fail
  go_ret
  exact⟨by rw[show t=aj from by rw[<-c.out];exact bM (by unfold jG;dsimp only;omega)];rfl,b.out⟩
 ·by_cases j:1<=a
  ·by_cases k:1<=base
   ·by_cases l:base<=d
    ·by_cases m:32<=size
     ·have n:¬ size<=2147483647:=by omega
      clear h
      go_wp2_with fail
      go_ret
      exact⟨by rw[show t=ah from by rw[<-c.out];exact bC (by unfold jG;dsimp only;omega)];rfl,b.out⟩
     ·clear h
      go_wp2_with fail
      go_ret
      exact⟨by rw[show t=ah from by rw[<-c.out];exact bC (by unfold jG;dsimp only;omega)];rfl,b.out⟩
    ·clear h
     go_wp2_with fail
     go_ret
     exact⟨by rw[show t=ah from by rw[<-c.out];exact bC (by unfold jG;dsimp only;omega)];rfl,b.out⟩
   ·clear h
    go_wp2_with fail
    go_ret
    exact⟨by rw[show t=ah from by rw[<-c.out];exact bC (by unfold jG;dsimp only;omega)];rfl,b.out⟩
  ·clear h
   go_wp2_with fail
   go_ret
   exact⟨by rw[show t=ah from by rw[<-c.out];exact bC (by unfold jG;dsimp only;omega)];rfl,b.out⟩
end
section
open Go.RowKit
def Ex(x:Int):Prop:=-9223372036854775808<=x/\x<=9223372036854775807
structure aa0(s:jo):Prop where
 num:Ex s.num
 base:Ex s.base
 end_:Ex s.end_
 size:Ex s.size
structure pw(w:am)(b o:Nat)(s:jo):Prop where
 c0:w.cell? ⟨b,o,ae⟩=ag (ay az s.num)
 c1:w.cell? ⟨b,o+1,ae⟩=ag (ay az s.base)
 c2:w.cell? ⟨b,o+2,ae⟩=ag (ay .u32 (bv s.seed))
 c3:w.cell? ⟨b,o+3,ae⟩=ag (ay az s.end_)
 c4:w.cell? ⟨b,o+4,ae⟩=ag (ay az s.size)
theorem pw.below{w w':am}{b o:Nat}{s:jo}(h:pw w b o s)(a:Below w.heap.size w w'):pw w' b o s:=
 ⟨bL a h.c0,bL a h.c1,bL a h.c2,bL a h.c3,bL a h.c4⟩
def oF(w:am)(c:Option Addr)(L:List jo):Prop:=∀i,i<L.length->aa0 (di L i)/\∃b a,c=ag ⟨b,a,ae⟩/\pw w b (a+i*5) (di L i)
theorem oF.below{w w':am}{c:Option Addr}{L:List jo}(h:oF w c L)(d:Below w.heap.size w w'):oF w' c L:=λi g=>by
 obtain⟨j,b,a,e,f⟩:=h i g
 exact⟨j,b,a,e,f.below d⟩
theorem oF.get{w:am}{b a:Nat}{L:List jo}(h:oF w (ag ⟨b,a,ae⟩) L){i:Nat}(g:i<L.length):aa0 (di L i)/\pw w b (a+i*5) (di L i):=by
 obtain⟨j,l,k,e,f⟩:=h i g
 injection e with e
 injection e with c d
 subst c d
 exact⟨j,f⟩
theorem BP(w:am)(s:jo)(t:au):pw (w.alloc (aG #[ay az s.num,ay az s.base,ay .u32 (bv s.seed),ay az s.end_,ay az s.size] t)) w.heap.size 0 s:=by
 have h:=bp w (aG #[ay az s.num,ay az s.base,ay .u32 (bv s.seed),ay az s.end_,ay az s.size] t)
 exact⟨aZ 0 h,aZ 1 h,aZ 2 h,aZ 3 h,aZ 4 h⟩
theorem Dm(f first:Int)(b c m O:Nat)(L:List jo)(w:am)(hL:L.length=m+1)(hs:oF w (ag ⟨b,c,ae⟩) L)(hc:m+1<=O)(hm:m+1<=140737488355328)(t:Bool)(ht:t=aj↔zx ⟨f,first,L⟩):
 aw ax 72 #[.agg #[ay az f,ay az first,aB (ag ⟨b,c,ae⟩) (m+1) O]] w λe w'=>e=aF (.bool t)/\Below w.heap.size w w':=by
 obtain⟨w1,gv⟩:=bP (w.alloc (aG #[ay az f,ay az first,aB (ag ⟨b,c,ae⟩) (m+1) O] 157))
 have iL:Below w.heap.size w w1:=gv▸aY w _
 have I:=bp w (aG #[ay az f,ay az first,aB (ag ⟨b,c,ae⟩) (m+1) O] 157)
 rw[gv]at I
 have k0:=aZ 0 I
 have k1:=aZ 1 I
 have k2:=aZ 2 I
 have HS:=aH (hs.below iL)
 have l:=aH ht
 have J:=aH iL
 have d:=aH hL
 obtain⟨ol,P,S,T,U,V⟩:=HS.out.get (i:=m) (by omega)
 clear hs ht iL I hL
 go_in
 by_cases h1:1<=f
 ·by_cases h2:1<=first
  ·by_cases h3:m<64
   ·go_wp2_with fail
    refine(U0 (di L m) w1).mono ?_
    rintro e w2 ⟨rfl,s⟩
    by_cases H:qZ (di L m)
    ·rw[bM H]
     have K0:=bL s k0
     have K1:=bL s k1
     have Z:=bL s k2
     have x:=aH (HS.out.below s)
     have N:=aH (aM J.out s)
     clear P S T U V ol k0 k1 k2 s gv
     go_wp2_with fail
     go_loopw [42,4,5,6] (λi _ _ _ wr=>∃k:Nat,k<=m/\i=ay az k/\Hid (Below w2.heap.size w2 wr)/\Hid (∀j,j<k->Th (di L j) (di L (j+1)))) (λi _ _ _ _=>m-(intOf i).toNat)
     case atStart=>exact⟨0,cF _,rfl,aH (cX _ _),aH λj hj=>absurd hj (by omega)⟩
     case round=>
      obtain⟨k,hk,rfl,n,HK⟩:=hrel
      by_cases yF:k<m
      ·have r:=aY wr (aG #[ay az (di L k).num,ay az (di L k).base,ay .u32 (bv (di L k).seed),ay az (di L k).end_,ay az (di L k).size] 221)
       have X:=aY (wr.alloc (aG #[ay az (di L k).num,ay az (di L k).base,ay .u32 (bv (di L k).seed),ay az (di L k).end_,ay az (di L k).size] 221)) (aG #[ay az (di L (k+1)).num,ay az (di L (k+1)).base,ay .u32 (bv (di L (k+1)).seed),ay az (di L (k+1)).end_,ay az (di L (k+1)).size] 221)
       have e1:(wr.alloc (aG #[ay az (di L k).num,ay az (di L k).base,ay .u32 (bv (di L k).seed),ay az (di L k).end_,ay az (di L k).size] 221)).heap.size=wr.heap.size+1:=by simp
       have S1:=(BP wr (di L k) 221)
       have S2:=(BP (wr.alloc (aG #[ay az (di L k).num,ay az (di L k).base,ay .u32 (bv (di L k).seed),ay az (di L k).end_,ay az (di L k).size] 221)) (di L (k+1)) 221)
       rw[e1]at S2
       have KW:=bL n.out Z
       have KA:=bL r KW
       obtain⟨W,P,S,T,U,V⟩:=(x.out.below n.out).get (i:=k) (by have:=d.out;omega)
       obtain⟨oj,E⟩:=(x.out.below n.out).get (i:=k+1) (by have:=d.out;omega)
       obtain⟨E0,E1,E2,E3,E4⟩:=E.below r
       have ab:=S1.below X
       obtain⟨F0,B,K,C,M⟩:=ab
       have f0:((wr.alloc (aG #[ay az (di L k).num,ay az (di L k).base,ay .u32 (bv (di L k).seed),ay az (di L k).end_,ay az (di L k).size] 221)).alloc (aG #[ay az (di L (k+1)).num,ay az (di L (k+1)).base,ay .u32 (bv (di L (k+1)).seed),ay az (di L (k+1)).end_,ay az (di L (k+1)).size] 221)).cell? ⟨wr.heap.size,0,ae⟩=_:=F0
       have f1:((wr.alloc (aG #[ay az (di L k).num,ay az (di L k).base,ay .u32 (bv (di L k).seed),ay az (di L k).end_,ay az (di L k).size] 221)).alloc (aG #[ay az (di L (k+1)).num,ay az (di L (k+1)).base,ay .u32 (bv (di L (k+1)).seed),ay az (di L (k+1)).end_,ay az (di L (k+1)).size] 221)).cell? ⟨wr.heap.size,1,ae⟩=_:=B
       have f2:((wr.alloc (aG #[ay az (di L k).num,ay az (di L k).base,ay .u32 (bv (di L k).seed),ay az (di L k).end_,ay az (di L k).size] 221)).alloc (aG #[ay az (di L (k+1)).num,ay az (di L (k+1)).base,ay .u32 (bv (di L (k+1)).seed),ay az (di L (k+1)).end_,ay az (di L (k+1)).size] 221)).cell? ⟨wr.heap.size,2,ae⟩=_:=K
       have f3:((wr.alloc (aG #[ay az (di L k).num,ay az (di L k).base,ay .u32 (bv (di L k).seed),ay az (di L k).end_,ay az (di L k).size] 221)).alloc (aG #[ay az (di L (k+1)).num,ay az (di L (k+1)).base,ay .u32 (bv (di L (k+1)).seed),ay az (di L (k+1)).end_,ay az (di L (k+1)).size] 221)).cell? ⟨wr.heap.size,3,ae⟩=_:=C
       have f4:((wr.alloc (aG #[ay az (di L k).num,ay az (di L k).base,ay .u32 (bv (di L k).seed),ay az (di L k).end_,ay az (di L k).size] 221)).alloc (aG #[ay az (di L (k+1)).num,ay az (di L (k+1)).base,ay .u32 (bv (di L (k+1)).seed),ay az (di L (k+1)).end_,ay az (di L (k+1)).size] 221)).cell? ⟨wr.heap.size,4,ae⟩=_:=M
       have HX:=aH (aM r X)
       have ac:=aH S2
       have HE:=aH E
       have HO:=aH W
       have ad:=aH oj
       clear r X e1 S1 S2 KW F0 B K C M E W oj
       go_wp2_with fail
       refine(JX (di L k)).mono ?_
       rintro e w5 ⟨rfl,o⟩
       have p:=aH (aM N.out (aM n.out (aM HX.out o)))
       have Y:=aH (aM n.out (aM HX.out o))
       have g0:=bL o f0
       have g1:=bL o f1
       have g2:=bL o f2
       have g3:=bL o f3
       have g4:=bL o f4
       have G:=(ac.out.below o)
       have j0:w5.cell? ⟨wr.heap.size+1,0,ae⟩=_:=G.c0
       have j1:w5.cell? ⟨wr.heap.size+1,1,ae⟩=_:=G.c1
       have hx:=HO.out
       obtain⟨⟨r1,r2⟩,-,-,-⟩:=hx
       clear o f0 f1 f2 f3 f4 G KA P S T U V E0 E1 E2 E3 E4
       by_cases u:jG (di L k)
       ·rw[bM u]
        by_cases g:(di L k).num=9223372036854775807
        ·have D:=aH g
         have b2:((di L k).num==9223372036854775807)=aj:=by simp[g]
         clear g
         go_wp2_with fail
         go_ret
         exact⟨by rw[show t=ah from gD.2 λh=>by have a:=(l.out.1 h).link k (by have:=d.out;dsimp only;omega);exact absurd D.out a.2.1];rfl,p.out⟩
        ·have b2:((di L k).num==9223372036854775807)=ah:=by simp[g]
         have r3:(di L k).num<9223372036854775807:=by omega
         by_cases q:(di L (k+1)).num=(di L k).num+1
         ·have b3:((di L (k+1)).num !=(di L k).num+1)=ah:=by simp[q]
          have y:=aH q
          clear q
          by_cases A:(di L (k+1)).base=(di L k).end_
          ·have b4:((di L (k+1)).base !=(di L k).end_)=ah:=by simp[A]
           have Q:=aH (show Th (di L k) (di L (k+1))from⟨u,g,y.out,A⟩)
           clear A g
           go_wp2_with fail
           go_roundw
           case rel=>exact⟨k+1,by omega,by go_num,Y,aH λj hj=>by
            rcases cg j k with h | h
            ·exact HK.out j h
            ·obtain rfl:j=k:=by omega
             exact Q.out⟩
           case measure=>simp[intOf];omega
          ·have b4:((di L (k+1)).base !=(di L k).end_)=aj:=by simp[A]
           have Q4:=aH A
           clear A
           go_wp2_with fail
           go_ret
           exact⟨by rw[show t=ah from gD.2 λh=>by have a:=(l.out.1 h).link k (by have:=d.out;dsimp only;omega);exact absurd a.2.2.2 Q4.out];rfl,p.out⟩
         ·have b3:((di L (k+1)).num !=(di L k).num+1)=aj:=by simp[q]
          have y:=aH q
          clear q
          go_wp2_with fail
          go_ret
          exact⟨by rw[show t=ah from gD.2 λh=>by have a:=(l.out.1 h).link k (by have:=d.out;dsimp only;omega);exact absurd a.2.2.1 y.out];rfl,p.out⟩
       ·rw[bC u]
        have z:=aH u
        clear u
        go_wp2_with fail
        go_ret
        exact⟨by rw[show t=ah from gD.2 λh=>by have a:=(l.out.1 h).link k (by have:=d.out;dsimp only;omega);exact absurd a.1 z.out];rfl,p.out⟩
      ·obtain rfl:k=m:=by omega
       have ai:=bL n.out K0
       have aa:=bL n.out K1
       have ak:=bL n.out Z
       obtain⟨W,D0,D1,D2,D3,D4⟩:=(x.out.below n.out).get (i:=0) (by have:=d.out;omega)
       have P:wr.cell? ⟨b,c,ae⟩=_:=D0
       have S:wr.cell? ⟨b,c+1,ae⟩=_:=D1
       have T:wr.cell? ⟨b,c+2,ae⟩=_:=D2
       have U:wr.cell? ⟨b,c+3,ae⟩=_:=D3
       have V:wr.cell? ⟨b,c+4,ae⟩=_:=D4
       have r:=aY wr (aG #[ay az (di L 0).num,ay az (di L 0).base,ay .u32 (bv (di L 0).seed),ay az (di L 0).end_,ay az (di L 0).size] 221)
       obtain⟨f0,B,K,C,M⟩:=(BP wr (di L 0) 221)
       have f1:(wr.alloc (aG #[ay az (di L 0).num,ay az (di L 0).base,ay .u32 (bv (di L 0).seed),ay az (di L 0).end_,ay az (di L 0).size] 221)).cell? ⟨wr.heap.size,1,ae⟩=_:=B
       have f3:(wr.alloc (aG #[ay az (di L 0).num,ay az (di L 0).base,ay .u32 (bv (di L 0).seed),ay az (di L 0).end_,ay az (di L 0).size] 221)).cell? ⟨wr.heap.size,3,ae⟩=_:=C
       have af:=bL r aa
       have p:=aH (aM N.out (aM n.out r))
       have H4:=aH H
       have H2:=aH h2
       have H1:=aH h1
       have H3:=aH h3
       clear D0 D1 D2 D3 D4 B K C M K0 K1 Z r W H hk
       have F:Hid ((di L 0).base<=first->(L.length=1\/first<=(di L 0).end_)->zx ⟨f,first,L⟩):=aH λa1 a2=>⟨H1.out,H2.out,(by have:=d.out;dsimp only;omega),(by have:=d.out;have:=H3.out;dsimp only;omega),(by dsimp only;rw[d.out,nk];exact H4.out),(λi hi=>HK.out i (by have:=d.out;dsimp only at hi;omega)),a1,a2⟩
       by_cases u:(di L 0).base<=first
       ·have z:=aH u
        by_cases g:k=0
        ·have D:=aH g
         have b2:((k:Int)==0)=aj:=by simp[g]
         clear g yF
         go_wp2_with fail
         go_ret
         exact⟨by rw[show t=aj from l.out.2 (F.out z.out (.inl (by rw[d.out,D.out])))];rfl,p.out⟩
        ·have D:=aH g
         have b2:((k:Int)==0)=ah:=by simp[g]
         clear g yF
         by_cases q:first<=(di L 0).end_
         ·have y:=aH q
          go_wp2_with fail
          go_ret
          exact⟨by rw[show t=aj from l.out.2 (F.out z.out (.inr y.out))];rfl,p.out⟩
         ·have y:=aH q
          go_wp2_with fail
          go_ret
          exact⟨by rw[show t=ah from gD.2 λh=>by have a:=(l.out.1 h).high;have:=D.out;have:=y.out;have:=d.out;dsimp only at a;omega];rfl,p.out⟩
       ·have z:=aH u
        go_wp2_with fail
        go_ret
        exact⟨by rw[show t=ah from gD.2 λh=>by have a:=(l.out.1 h).low;have:=z.out;dsimp only at a;omega];rfl,p.out⟩
    ·rw[bC H]
     have N:=aH (aM J.out s)
     clear s
     go_wp2_with fail
     go_ret
     exact⟨by rw[show t=ah from gD.2 λh=>H (by have a:=(l.out.1 h).last;have h6:=d.out;dsimp only at a;rwa [h6,nk]at a)];rfl,N.out⟩
   ·go_wp2_with fail
    go_ret
    exact⟨by rw[show t=ah from gD.2 λh=>by have a:=(l.out.1 h).Mj;have h6:=d.out;dsimp only at a;omega];rfl,J.out⟩
  ·go_wp2_with fail
   go_ret
   exact⟨by rw[show t=ah from gD.2 λh=>by have a:=(l.out.1 h).first;dsimp only at a;omega];rfl,J.out⟩
 ·go_wp2_with fail
  go_ret
  exact⟨by rw[show t=ah from gD.2 λh=>by have a:=(l.out.1 h).gen;dsimp only at a;omega];rfl,J.out⟩
theorem Dn(a first:Int)(c:Option Addr)(d:Nat)(w:am):
 aw ax 72 #[.agg #[ay az a,ay az first,aB c 0 d]] w λe w'=>e=aF (aC ah)/\Below w.heap.size w w':=by
 have g:=aY w (aG #[ay az a,ay az first,aB c 0 d] 157)
 have b:=bp w (aG #[ay az a,ay az first,aB c 0 d] 157)
 have j:=aZ 0 b
 have k:=aZ 1 b
 have l:=aZ 2 b
 have f:=aH g
 clear g b
 go_in
 by_cases h:1<=a
 ·by_cases i:1<=first
  ·go_wp2_with fail
   go_ret
   exact⟨rfl,f.out⟩
  ·go_wp2_with fail
   go_ret
   exact⟨rfl,f.out⟩
 ·go_wp2_with fail
  go_ret
  exact⟨rfl,f.out⟩
structure zE(w:am)(v:ar)(c:xg):Prop where
 shape:∃ao ca,v=.agg #[ay az c.gen,ay az c.first,aB ao c.l9.length ca]/\oF w ao c.l9/\c.l9.length<=ca/\c.l9.length<=140737488355328/\(ao=ae->ca=0)
 gen:Ex c.gen
 first:Ex c.first
theorem zE.below{w w':am}{v:ar}{c:xg}(h:zE w v c)(d:Below w.heap.size w w'):zE w' v c:=
 ⟨by obtain⟨a,b,e,f,r⟩:=h.shape;exact⟨a,b,e,f.below d,r⟩,h.gen,h.first⟩
theorem Mx{c:xg}{v:ar}(w:am)(h:zE w v c)(t:Bool)(i:t=aj↔zx c):
 aw ax 72 #[v] w λe w'=>e=aF (.bool t)/\Below w.heap.size w w':=by
 obtain⟨j,g,rfl,d,k,l,n⟩:=h.shape
 obtain⟨a,first,L⟩:=c
 dsimp only at d k l ⊢
 match hL:L.length with
 | 0=>
  obtain rfl:t=ah:=gD.2 λh=>by have:=(i.1 h).some;dsimp only at this;omega
  exact Dn a first j g w
 | m+1=>
  obtain⟨-,b,f,rfl,-⟩:=d 0 (by omega)
  exact Dm a first b f m g L w hL d (by omega) (by omega) t i
end
section
namespace Crc
abbrev R:=BitVec 32
def bit(c:R):R:=if c &&& 1#32==1#32 then(c >>> 1) ^^^ 2197175160#32 else c >>> 1
def pu:Nat->R->R
 | 0,c=>c
 | n+1,c=>pu n (bit c)
def step(c:R):R:=pu 8 c
def Ol(c:R)(b:List (BitVec 8)):R:=b.foldl (λc x=>step (c ^^^ x.setWidth 32)) c
def vN:Nat->R->R
 | 0,c=>c
 | n+1,c=>vN n (step c)
theorem Kj(n:Nat):∀c,pu (n+1) c=bit (pu n c):=by
 induction n with
 | zero=>intro c;rfl
 | succ n ih=>intro c;rw[pu,ih];rfl
theorem MC(c:R):bit c=(c >>> 1) ^^^ (if c.getLsbD 0 then 2197175160#32 else 0#32):=by
 unfold bit
 have h:(c &&& 1#32==1#32)=c.getLsbD 0:=by
  have e:c &&& 1#32=if c.getLsbD 0 then 1#32 else 0#32:=by
   apply jd
   intro i d
   by_cases a:i=0
   ·subst a
    rw[BitVec.getLsbD_and]
    cases h:c.getLsbD 0 <;> rfl
   ·have b:(1#32).getLsbD i=ah:=by
     rw[BitVec.getLsbD_one];simp[a]
    rw[BitVec.getLsbD_and,b]
    cases h:c.getLsbD 0 <;> simp[a]
  rw[e];cases c.getLsbD 0 <;> decide
 rw[h];cases c.getLsbD 0 <;> simp
theorem Ze(a b:R):bit (a ^^^ b)=bit a ^^^ bit b:=by
 simp only[MC,BitVec.ushiftRight_xor_distrib,BitVec.getLsbD_xor]
 generalize a >>> 1=x
 generalize b >>> 1=y
 generalize(2197175160#32:R)=p
 cases a.getLsbD 0 <;> cases b.getLsbD 0 <;> (apply jd;intro i _;simp) <;> cases x.getLsbD i <;> cases y.getLsbD i <;> cases p.getLsbD i <;> rfl
theorem Qg(n:Nat):∀a b,pu n (a ^^^ b)=pu n a ^^^ pu n b:=by
 induction n with
 | zero=>intro a b;rfl
 | succ n ih=>intro a b;rw[pu,Ze,ih];rfl
theorem Ry(a b:R):step (a ^^^ b)=step a ^^^ step b:=Qg 8 a b
theorem Jb(c:R)(a b:List (BitVec 8)):Ol c (a++b)=Ol (Ol c a) b:=by unfold Ol;rw[List.foldl_append]
theorem Se(c:R)(a:List (BitVec 8))(x:BitVec 8):Ol c (a++[x])=step (Ol c a ^^^ x.setWidth 32):=by rw[Jb];rfl
def agl:R:=4294967295#32
def more(s:R)(b:List (BitVec 8)):R:=Ol (s ^^^ agl) b ^^^ agl
def sum(b:List (BitVec 8)):R:=more 0#32 b
theorem U9(c:R)(h:c.getLsbD 0=ah):bit c=c >>> 1:=by rw[MC,h];simp
theorem Ho(n:Nat):∀c:R,(∀i,i<n->c.getLsbD i=ah)->pu n c=c >>> n:=by
 induction n with
 | zero=>intro c _;simp[pu]
 | succ n ih=>
  intro c h
  rw[pu,U9 c (h 0 (by omega)),ih]
  ·apply jd
   intro i _
   simp only[qe]
   rw[show 1+(n+i)=n+1+i from by omega]
  ·intro i a;rw[qe];exact h (1+i) (by omega)
theorem Te(c:R):c=((c.setWidth 8).setWidth 32) ^^^ ((c >>> 8) <<< 8):=by
 apply jd
 intro i a
 simp only[BitVec.getLsbD_xor,BitVec.getLsbD_setWidth,BitVec.getLsbD_shiftLeft,qe]
 by_cases h:i<8
 ·simp[h,a]
 ·have b:8+(i-8)=i:=by omega
  simp[h,a,b]
theorem IU(c:R):step c=step ((c.setWidth 8).setWidth 32) ^^^ c >>> 8:=by
 have e:step ((c >>> 8) <<< 8)=c >>> 8:=by
  unfold step
  rw[Ho]
  ·apply jd
   intro i a
   simp only[BitVec.getLsbD_shiftLeft,qe]
   by_cases h:i+8<32
   ·have b:8+i-8=i:=by omega
    simp[b];intro;omega
   ·have:c.getLsbD (8+i)=ah:=BitVec.getLsbD_of_ge _ _ (by omega)
    simp[this]
  ·intro i a
   simp[BitVec.getLsbD_shiftLeft,a]
 have h:=Te c
 have d:step c=step (((c.setWidth 8).setWidth 32) ^^^ ((c >>> 8) <<< 8)):=by rw[<-h]
 rw[d,Ry,e]
theorem NU(c:R)(x:BitVec 8):step (c ^^^ x.setWidth 32)=step ((c.setWidth 8 ^^^ x).setWidth 32) ^^^ c >>> 8:=by
 rw[IU]
 have b:(c ^^^ x.setWidth 32).setWidth 8=c.setWidth 8 ^^^ x:=by
  apply jd
  intro i a
  simp[a]
 have d:(c ^^^ x.setWidth 32) >>> 8=c >>> 8:=by
  apply jd
  intro i a
  simp
 rw[b,d]
end Crc
end
section
namespace Crc
def part(f:Nat->R)(c:R):Nat->R
 | 0=>0#32
 | n+1=>part f c n ^^^ (if c.getLsbD n then f n else 0#32)
def ap(f:Nat->R)(c:R):R:=part f c 32
end Crc
end
end Go.Proofs.YtooinenkenobaaaGreat

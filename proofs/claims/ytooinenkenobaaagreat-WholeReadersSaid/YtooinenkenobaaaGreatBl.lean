/- A part of the proof of what LawWholeReaders says. -/
import Derived.Test.YtooinenkenobaaaGreatAa
import Derived.Test.YtooinenkenobaaaGreatBk
import Derived.Test.YtooinenkenobaaaGreatBh
set_option maxRecDepth 100000
set_option maxHeartbeats 20000000
namespace Go.Proofs.YtooinenkenobaaaGreat
open Option renaming none->ae,some->ag
open Bool renaming false->ah,true->aj
open Go.Proofs.Tryz renaming prog->ax
open Go.Value renaming int->ay,pointer->aA,slice->aB,bool->aC,float->aD
open Go.IntKind renaming i64->az
open Go.FloatKind renaming f64->aE
open Go.Ending renaming returned->aF
open Go.Obj renaming cells->aG
open Go renaming World->am,Value->ar,TypeId->au,Calls->aw
section
open Go.RowKit Go.Maps
abbrev Tg:=Nat->Nat
structure Ch(T:List Nat)(g:Tg)(w:am)(g':Tg)(w':am):Prop where
 os:w'.os=w.os
 tape:w'.tape=w.tape
 output:w'.output=w.output
 size:w.heap.size<=w'.heap.size
 tag:∀q,q<w.heap.size->g' q=g q
 gP:∀q,q<w.heap.size->g q∉T->w'.heap[q]?=w.heap[q]?
def tg(g:Tg)(b t:Nat):Tg:=λq=>if q=b then t else g q
def eJ(g:Tg)(n t:Nat):Tg:=λq=>if n<=q then t else g q
theorem dG(g:Tg)(b t:Nat):tg g b t b=t:=bj rfl
theorem dA{g:Tg}{b t q:Nat}(h:q≠b):tg g b t q=g q:=bf h
theorem dQ{g:Tg}{n t q:Nat}(h:n<=q):eJ g n t q=t:=bj h
theorem dU{g:Tg}{n t q:Nat}(h:q<n):eJ g n t q=g q:=bf (by omega)
section
variable{T T':List Nat}{g g1 g2:Tg}{w w1 w2:am}
theorem Ch.refl(T:List Nat)(g:Tg)(w:am):Ch T g w g w:=⟨rfl,rfl,rfl,bT _,λ_ _=>rfl,λ_ _ _=>rfl⟩
theorem Ch.trans(h:Ch T g w g1 w1)(k:Ch T g1 w1 g2 w2):Ch T g w g2 w2:=
 ⟨k.os.trans h.os,k.tape.trans h.tape,k.output.trans h.output,bJ h.size k.size,λq a=>(k.tag q (by have:=h.size;omega)).trans (h.tag q a),λq a c=>(k.gP q (by have:=h.size;omega) (by rw[h.tag q a];exact c)).trans (h.gP q a c)⟩
theorem Ch.mono(h:Ch T g w g1 w1)(a:∀t,t∈T->t∈T'):Ch T' g w g1 w1:=⟨h.os,h.tape,h.output,h.size,h.tag,λq d c=>h.gP q d λe=>c (a _ e)⟩
theorem Ch.gE(h:Ch T g w g1 w1)(c:∀q,q<w.heap.size->g2 q=g1 q):Ch T g w g2 w1:=⟨h.os,h.tape,h.output,h.size,λq a=>(c q a).trans (h.tag q a),h.gP⟩
theorem Ch.eJ(h:Ch T g w g1 w1){n t:Nat}(a:w.heap.size<=n):Ch T g w (eJ g1 n t) w1:=h.gE λq c=>dU (by omega)
theorem Ch.tg(h:Ch T g w g1 w1){b t:Nat}(a:w.heap.size<=b):Ch T g w (tg g1 b t) w1:=h.gE λq c=>dA (by omega)
theorem Ch.bh(T:List Nat)(g:Tg)(h:Below w.heap.size w w1):Ch T g w g w1:=⟨h.os,h.tape,h.output,h.size,λ_ _=>rfl,λq a _=>h.block q a⟩
theorem Ch.on(h:Ch T g w g1 w1)(k:Below w1.heap.size w1 w2):Ch T g w g1 w2:=h.trans (Ch.bh T g1 k)
theorem Ch.lh{S:Nat->Prop}(h:iD S w w1)(c:∀q,q<w.heap.size->S q->g q∈T):Ch T g w g w1:=⟨h.os,h.tape,h.output,h.size,λ_ _=>rfl,λq a d=>h.gP q a λe=>d (c q a e)⟩
theorem Ch.pW(h:Ch T g w g1 w1){S:Nat->Prop}(k:iD S w1 w2)(a:∀q,q<w1.heap.size->S q->g1 q∈T):Ch T g w g1 w2:=h.trans (Ch.lh k a)
theorem Ch.set(h:Ch T g w g1 w1){b i:Nat}(v:ar)(a:g1 b∈T\/w.heap.size<=b):Ch T g w g1 (w1.setCell ⟨b,i,ae⟩ v):=
 ⟨h.os,h.tape,h.output,by simp[World.setCell];exact h.size,h.tag,λq d c=>(eh _ _ _ _ (by
  rintro rfl
  rcases a with a | a
  ·rw[h.tag q d]at a;exact c a
  ·omega)).trans (h.gP q d c)⟩
theorem Ch.grown(h:Ch T g w g1 w1){row:Option Nat}(k:w1.grownBy w2 row)(d:∀q,row=ag q->g1 q∈T\/w.heap.size<=q):Ch T g w g1 w2:=
 ⟨k.os.trans h.os,k.tape.trans h.tape,k.output.trans h.output,bJ h.size k.size,h.tag,λq c a=>(k.block q (by have:=h.size;omega) (λe=>by
  rcases d q e.symm with e | e
  ·rw[h.tag q c]at e;exact a e
  ·omega)).trans (h.gP q c a)⟩
theorem Ch.alloc(h:Ch T g w g1 w1)(o:Obj):Ch T g w g1 (w1.alloc o):=h.on ((cX _ _).alloc dx o)
theorem Ch.drewN(h:Ch T g w g1 w1)(n:Nat):Ch T g w g1 (w1.drewN n):=h.on (below_drewN _ _)
theorem Ch.dV(h:Ch T g w g1 w1){q:Nat}{o:Obj}(a:w.heap[q]?=ag o)(c:g q∉T):w1.heap[q]?=ag o:=(h.gP q (aT a) c).trans a
theorem Ch.below(h:Ch T g w g1 w1){n:Nat}(d:n<=w.heap.size)(a:∀q,q<n->g q∉T):Below n w w1:=⟨h.os,h.tape,h.output,h.size,λq c=>h.gP q (by omega) (a q c)⟩
end
theorem Ch.start{w w1:am}(g:Tg)(h:Below w.heap.size w w1):Ch [] g w (Go.Proofs.YtooinenkenobaaaGreat.eJ g w.heap.size 0) w1:=(Ch.bh [] g h).eJ dx
theorem Ch.any{T:List Nat}{g g1:Tg}{w w1:am}(h:Ch [] g w g1 w1):Ch T g w g1 w1:=h.mono λ_ h=>by cases h
structure Row(w:am)(g:Tg)(t b:Nat)(cs:Array ar)(ty:au):Prop where
 row:w.heap[b]?=ag (.cells cs ty (0,0))
 tag:g b=t
section
variable{T:List Nat}{g g':Tg}{w w':am}{t b:Nat}{cs:Array ar}{ty:au}
theorem Row.ch(h:Row w g t b cs ty)(c:Ch T g w g' w')(a:t∉T):Row w' g' t b cs ty:=⟨c.dV h.row (by rw[h.tag];exact a),(c.tag b (aT h.row)).trans h.tag⟩
theorem Row.cell(h:Row w g t b cs ty)(j:Nat):w.cell? ⟨b,j,ae⟩=cs[j]?:=aZ j h.row
theorem Row.free(h:Row w g t b cs ty)(j:Nat):w.frozen? ⟨b,j,ae⟩=ah:=bQ j h.row
theorem Row.ahy(h:Row w g t b cs ty):∀j,w.frozen? ⟨b,j,ae⟩=ah:=h.free
theorem Row.lt(h:Row w g t b cs ty):b<w.heap.size:=aT h.row
theorem Row.set(h:Row w g t b cs ty)(i:Nat)(v:ar):Row (w.setCell ⟨b,i,ae⟩ v) g t b (cs.setIfInBounds i v) ty:=⟨bE h.row i v,h.tag⟩
theorem Row.iZ(h:Row w g t b cs ty){c i:Nat}{v:ar}(a:b≠c):Row (w.setCell ⟨c,i,ae⟩ v) g t b cs ty:=⟨(bD a).trans h.row,h.tag⟩
theorem Row.below(h:Row w g t b cs ty)(k:Below w.heap.size w w'):Row w' g t b cs ty:=⟨(k.block _ h.lt).trans h.row,h.tag⟩
theorem Row.dn(h:Row w g t b cs ty)(n:Nat):Row (w.drewN n) g t b cs ty:=⟨h.row,h.tag⟩
theorem Row.gE(h:Row w g t b cs ty)(a:g' b=g b):Row w g' t b cs ty:=⟨h.row,a.trans h.tag⟩
theorem Row.grown(h:Row w g t b cs ty){row:Option Nat}(k:w.grownBy w' row)(a:ag b≠row):Row w' g t b cs ty:=⟨(k.block _ h.lt a).trans h.row,h.tag⟩
end
theorem jY{w:am}{b:Nat}{a:ar}{t:au}(h:w.heap[b]?=ag (aG #[a] t (0,0))):b<w.heap.size/\w.cell? ⟨b,0,ae⟩=ag a/\w.frozen? ⟨b,0,ae⟩=ah:=
 ⟨aT h,aZ 0 h,bQ 0 h⟩
theorem gc{w:am}{b:Nat}{a c:ar}{t:au}(h:w.heap[b]?=ag (aG #[a,c] t (0,0))):b<w.heap.size/\w.cell? ⟨b,0,ae⟩=ag a/\w.cell? ⟨b,1,ae⟩=ag c/\w.frozen? ⟨b,0,ae⟩=ah/\w.frozen? ⟨b,1,ae⟩=ah:=
 ⟨aT h,aZ 0 h,aZ 1 h,bQ 0 h,bQ 1 h⟩
theorem eH{w:am}{b:Nat}{a c d:ar}{t:au}(h:w.heap[b]?=ag (aG #[a,c,d] t (0,0))):b<w.heap.size/\w.cell? ⟨b,0,ae⟩=ag a/\w.cell? ⟨b,1,ae⟩=ag c/\w.cell? ⟨b,2,ae⟩=ag d/\w.frozen? ⟨b,0,ae⟩=ah/\w.frozen? ⟨b,1,ae⟩=ah/\w.frozen? ⟨b,2,ae⟩=ah:=
 ⟨aT h,aZ 0 h,aZ 1 h,aZ 2 h,bQ 0 h,bQ 1 h,bQ 2 h⟩
theorem Oj{w:am}{b:Nat}{a c d e:ar}{t:au}(h:w.heap[b]?=ag (aG #[a,c,d,e] t (0,0))):b<w.heap.size/\w.cell? ⟨b,0,ae⟩=ag a/\w.cell? ⟨b,1,ae⟩=ag c/\w.cell? ⟨b,2,ae⟩=ag d/\w.cell? ⟨b,3,ae⟩=ag e/\w.frozen? ⟨b,0,ae⟩=ah/\w.frozen? ⟨b,1,ae⟩=ah/\w.frozen? ⟨b,2,ae⟩=ah/\w.frozen? ⟨b,3,ae⟩=ah:=
 ⟨aT h,aZ 0 h,aZ 1 h,aZ 2 h,aZ 3 h,bQ 0 h,bQ 1 h,bQ 2 h,bQ 3 h⟩
theorem aga{w:am}{b:Nat}{a c d e i:ar}{t:au}(h:w.heap[b]?=ag (aG #[a,c,d,e,i] t (0,0))):b<w.heap.size/\w.cell? ⟨b,0,ae⟩=ag a/\w.cell? ⟨b,1,ae⟩=ag c/\w.cell? ⟨b,2,ae⟩=ag d/\w.cell? ⟨b,3,ae⟩=ag e/\w.cell? ⟨b,4,ae⟩=ag i/\w.frozen? ⟨b,0,ae⟩=ah/\w.frozen? ⟨b,1,ae⟩=ah/\w.frozen? ⟨b,2,ae⟩=ah/\w.frozen? ⟨b,3,ae⟩=ah/\w.frozen? ⟨b,4,ae⟩=ah:=
 ⟨aT h,aZ 0 h,aZ 1 h,aZ 2 h,aZ 3 h,aZ 4 h,bQ 0 h,bQ 1 h,bQ 2 h,bQ 3 h,bQ 4 h⟩
theorem oV{w:am}{b:Nat}{a c d e i j l m:ar}{t:au}(h:w.heap[b]?=ag (aG #[a,c,d,e,i,j,l,m] t (0,0))):b<w.heap.size/\w.cell? ⟨b,0,ae⟩=ag a/\w.cell? ⟨b,1,ae⟩=ag c/\w.cell? ⟨b,2,ae⟩=ag d/\w.cell? ⟨b,3,ae⟩=ag e/\w.cell? ⟨b,4,ae⟩=ag i/\w.cell? ⟨b,5,ae⟩=ag j/\w.cell? ⟨b,6,ae⟩=ag l/\w.cell? ⟨b,7,ae⟩=ag m/\w.frozen? ⟨b,0,ae⟩=ah/\w.frozen? ⟨b,1,ae⟩=ah/\w.frozen? ⟨b,2,ae⟩=ah/\w.frozen? ⟨b,3,ae⟩=ah/\w.frozen? ⟨b,4,ae⟩=ah/\w.frozen? ⟨b,5,ae⟩=ah/\w.frozen? ⟨b,6,ae⟩=ah/\w.frozen? ⟨b,7,ae⟩=ah:=
 ⟨aT h,aZ 0 h,aZ 1 h,aZ 2 h,aZ 3 h,aZ 4 h,aZ 5 h,aZ 6 h,aZ 7 h,bQ 0 h,bQ 1 h,bQ 2 h,bQ 3 h,bQ 4 h,bQ 5 h,bQ 6 h,bQ 7 h⟩
theorem xR{w:am}{b:Nat}{a c d e i j l m o p:ar}{t:au}(h:w.heap[b]?=ag (aG #[a,c,d,e,i,j,l,m,o,p] t (0,0))):b<w.heap.size/\w.cell? ⟨b,0,ae⟩=ag a/\w.cell? ⟨b,1,ae⟩=ag c/\w.cell? ⟨b,2,ae⟩=ag d/\w.cell? ⟨b,3,ae⟩=ag e/\w.cell? ⟨b,4,ae⟩=ag i/\w.cell? ⟨b,5,ae⟩=ag j/\w.cell? ⟨b,6,ae⟩=ag l/\w.cell? ⟨b,7,ae⟩=ag m/\w.cell? ⟨b,8,ae⟩=ag o/\w.cell? ⟨b,9,ae⟩=ag p/\w.frozen? ⟨b,0,ae⟩=ah/\w.frozen? ⟨b,1,ae⟩=ah/\w.frozen? ⟨b,2,ae⟩=ah/\w.frozen? ⟨b,3,ae⟩=ah/\w.frozen? ⟨b,4,ae⟩=ah/\w.frozen? ⟨b,5,ae⟩=ah/\w.frozen? ⟨b,6,ae⟩=ah/\w.frozen? ⟨b,7,ae⟩=ah/\w.frozen? ⟨b,8,ae⟩=ah/\w.frozen? ⟨b,9,ae⟩=ah:=
 ⟨aT h,aZ 0 h,aZ 1 h,aZ 2 h,aZ 3 h,aZ 4 h,aZ 5 h,aZ 6 h,aZ 7 h,aZ 8 h,aZ 9 h,bQ 0 h,bQ 1 h,bQ 2 h,bQ 3 h,bQ 4 h,bQ 5 h,bQ 6 h,bQ 7 h,bQ 8 h,bQ 9 h⟩
theorem aqP{w:am}{b:Nat}{d e i j l m o p q r s a c:ar}{t:au}(h:w.heap[b]?=ag (aG #[d,e,i,j,l,m,o,p,q,r,s,a,c] t (0,0))):b<w.heap.size/\w.cell? ⟨b,0,ae⟩=ag d/\w.cell? ⟨b,1,ae⟩=ag e/\w.cell? ⟨b,2,ae⟩=ag i/\w.cell? ⟨b,3,ae⟩=ag j/\w.cell? ⟨b,4,ae⟩=ag l/\w.cell? ⟨b,5,ae⟩=ag m/\w.cell? ⟨b,6,ae⟩=ag o/\w.cell? ⟨b,7,ae⟩=ag p/\w.cell? ⟨b,8,ae⟩=ag q/\w.cell? ⟨b,9,ae⟩=ag r/\w.cell? ⟨b,10,ae⟩=ag s/\w.cell? ⟨b,11,ae⟩=ag a/\w.cell? ⟨b,12,ae⟩=ag c/\w.frozen? ⟨b,0,ae⟩=ah/\w.frozen? ⟨b,1,ae⟩=ah/\w.frozen? ⟨b,2,ae⟩=ah/\w.frozen? ⟨b,3,ae⟩=ah/\w.frozen? ⟨b,4,ae⟩=ah/\w.frozen? ⟨b,5,ae⟩=ah/\w.frozen? ⟨b,6,ae⟩=ah/\w.frozen? ⟨b,7,ae⟩=ah/\w.frozen? ⟨b,8,ae⟩=ah/\w.frozen? ⟨b,9,ae⟩=ah/\w.frozen? ⟨b,10,ae⟩=ah/\w.frozen? ⟨b,11,ae⟩=ah/\w.frozen? ⟨b,12,ae⟩=ah:=
 ⟨aT h,aZ 0 h,aZ 1 h,aZ 2 h,aZ 3 h,aZ 4 h,aZ 5 h,aZ 6 h,aZ 7 h,aZ 8 h,aZ 9 h,aZ 10 h,aZ 11 h,aZ 12 h,bQ 0 h,bQ 1 h,bQ 2 h,bQ 3 h,bQ 4 h,bQ 5 h,bQ 6 h,bQ 7 h,bQ 8 h,bQ 9 h,bQ 10 h,bQ 11 h,bQ 12 h⟩
theorem aqO{w:am}{b:Nat}{i j l m o p q r s u x c d e a:ar}{t:au}(h:w.heap[b]?=ag (aG #[i,j,l,m,o,p,q,r,s,u,x,c,d,e,a] t (0,0))):b<w.heap.size/\w.cell? ⟨b,0,ae⟩=ag i/\w.cell? ⟨b,1,ae⟩=ag j/\w.cell? ⟨b,2,ae⟩=ag l/\w.cell? ⟨b,3,ae⟩=ag m/\w.cell? ⟨b,4,ae⟩=ag o/\w.cell? ⟨b,5,ae⟩=ag p/\w.cell? ⟨b,6,ae⟩=ag q/\w.cell? ⟨b,7,ae⟩=ag r/\w.cell? ⟨b,8,ae⟩=ag s/\w.cell? ⟨b,9,ae⟩=ag u/\w.cell? ⟨b,10,ae⟩=ag x/\w.cell? ⟨b,11,ae⟩=ag c/\w.cell? ⟨b,12,ae⟩=ag d/\w.cell? ⟨b,13,ae⟩=ag e/\w.cell? ⟨b,14,ae⟩=ag a/\w.frozen? ⟨b,0,ae⟩=ah/\w.frozen? ⟨b,1,ae⟩=ah/\w.frozen? ⟨b,2,ae⟩=ah/\w.frozen? ⟨b,3,ae⟩=ah/\w.frozen? ⟨b,4,ae⟩=ah/\w.frozen? ⟨b,5,ae⟩=ah/\w.frozen? ⟨b,6,ae⟩=ah/\w.frozen? ⟨b,7,ae⟩=ah/\w.frozen? ⟨b,8,ae⟩=ah/\w.frozen? ⟨b,9,ae⟩=ah/\w.frozen? ⟨b,10,ae⟩=ah/\w.frozen? ⟨b,11,ae⟩=ah/\w.frozen? ⟨b,12,ae⟩=ah/\w.frozen? ⟨b,13,ae⟩=ah/\w.frozen? ⟨b,14,ae⟩=ah:=
 ⟨aT h,aZ 0 h,aZ 1 h,aZ 2 h,aZ 3 h,aZ 4 h,aZ 5 h,aZ 6 h,aZ 7 h,aZ 8 h,aZ 9 h,aZ 10 h,aZ 11 h,aZ 12 h,aZ 13 h,aZ 14 h,bQ 0 h,bQ 1 h,bQ 2 h,bQ 3 h,bQ 4 h,bQ 5 h,bQ 6 h,bQ 7 h,bQ 8 h,bQ 9 h,bQ 10 h,bQ 11 h,bQ 12 h,bQ 13 h,bQ 14 h⟩
theorem lG{B:Nat}{a b:am}(h:Below B a b)(n:Nat):Below B a (b.drewN n):=⟨h.os,h.tape,h.output,h.size,h.block⟩
theorem bK{B b i:Nat}{a c:am}(h:Below B a c)(d:B<=b)(v:ar):Below B a (c.setCell ⟨b,i,ae⟩ v):=h.setCell (p:=⟨b,i,ae⟩) d v
section
variable{T:List Nat}{g g':Tg}{w w':am}{t k n:Nat}{E:au}{v:ar}{L:List ar}
end
structure i9(w:am)(g:Tg)(t:Nat)(k:au)(b n:Nat)(f:Lit->Option ar):Prop where
 map:fL w k b n f
 tag:g b=t
section
variable{T:List Nat}{g g':Tg}{w w':am}{t b n:Nat}{k:au}{f:Lit->Option ar}
theorem i9.ch(h:i9 w g t k b n f)(c:Ch T g w g' w')(a:t∉T):i9 w' g' t k b n f:=⟨h.map.move (c.gP b h.map.lt (by rw[h.tag];exact a)),(c.tag b h.map.lt).trans h.tag⟩
theorem i9.below(h:i9 w g t k b n f)(c:Below w.heap.size w w'):i9 w' g t k b n f:=⟨h.map.move (c.block b h.map.lt),h.tag⟩
theorem i9.iZ(h:i9 w g t k b n f){c i:Nat}{u:ar}(a:b≠c):i9 (w.setCell ⟨c,i,ae⟩ u) g t k b n f:=⟨h.map.move (bD a),h.tag⟩
end
theorem cD.same{w w':am}{ao:Option Addr}{bs:List (BitVec 8)}(h:cD w ao bs)(j:∀g a,ao=ag ⟨g,a,ae⟩->bs≠[]->w'.heap[g]?=w.heap[g]?):cD w' ao bs:=λi c=>by
 obtain⟨b,a,e,l⟩:=h i c
 exact⟨b,a,e,(ir (j b a e (λd=>by rw[d]at c;simp at c))).trans l⟩
section
variable{T:List Nat}{g g':Tg}{w w':am}{t:Nat}{ao:Option Addr}{bs:List (BitVec 8)}
end
theorem jC{α:Type}(f:α->List ar)(k:Nat)(a:∀x,(f x).length=k):∀L:List α,(L.flatMap f).length=L.length*k
 | []=>by simp
 | x::L=>by rw[eC,aN,a,jC f k a L,bV,dT];omega
theorem kC{α:Type}(f:α->List ar)(k:Nat)(a:∀x,(f x).length=k):∀(L:List α) (i j:Nat),j<k->(L.flatMap f)[i*k+j]?=(L[i]?).bind λx=>(f x)[j]?
 | [],i,j,_=>by simp
 | x::L,0,j,hj=>by rw[eC,io,cL,bI (by rw[a];exact hj)];rfl
 | x::L,i+1,j,hj=>by
  rw[eC,bH (by rw[a,dT];omega),a,show(i+1)*k+j-k=i*k+j by rw[dT];omega,kC f k a L i j hj]
  rfl
theorem Bg{α:Type}(f:α->List ar){x:α}{a b:ar}(hx:f x=[a,b])(e:∀x,(f x).length=2):∀(L:List α) (i:Nat),((L.flatMap f).set (i*2) a).set (i*2+1) b=(L.set i x).flatMap f
 | [],i=>by simp
 | y::L,0=>by
  rw[eC,List.set_cons_zero,eC,hx]
  match f y,e y with
  | [c,d],_=>rfl
 | y::L,i+1=>by
  rw[eC,KR,eC,<-Bg f hx e L i]
  match f y,e y with
  | [c,d],_=>
   rw[show(i+1)*2=i*2+1+1 by omega,show i*2+1+1+1=(i*2+1)+1+1 by omega]
   simp only[eF,fY,KR]
theorem yN{α:Type}(f:α->List ar){x:α}{a b:ar}(hx:f x=[a,b])(c:∀x,(f x).length=2)(L:List α)(i:Nat):((L.flatMap f).toArray.setIfInBounds (i*2) a).setIfInBounds (i*2+1) b=((L.set i x).flatMap f).toArray:=by
 rw[<-Bg f hx c L i]
 simp
def fC{α:Type}(f:α->List ar)(E:au)(k:Nat)(w:am)(v:ar)(L:List α):Prop:=w.ownsRow 0 E k v L.length (L.flatMap f)
theorem fC.nil{α:Type}(f:α->List ar)(E:au)(k:Nat)(w:am):fC f E k w (aB ae 0 0) []:=ae9 w 0 E k
theorem fC.shape{α:Type}{f:α->List ar}{E:au}{k:Nat}{w:am}{v:ar}{L:List α}(h:fC f E k w v L):∃ao a,v=aB ao L.length a/\L.length<=a/\a<=maxLen/\(ao=ae->a=0)/\(ao=ae\/∃g,ao=ag ⟨g,0,ae⟩/\g<w.heap.size):=by
 rcases h.2 with⟨rfl,j⟩ | ⟨g,c,i,rfl,o,l,d,m,p,q⟩
 ·exact⟨ae,0,by rw[j],by omega,by simp[maxLen],λ_=>rfl,.inl rfl⟩
 ·exact⟨ag ⟨g,0,ae⟩,c,rfl,d,m,(λe=>by cases e),.inr ⟨g,rfl,aT l⟩⟩
theorem fC.get{α:Type}{f:α->List ar}{E:au}{k:Nat}{w:am}{v:ar}{L:List α}(h:fC f E k w v L)(p:∀x,(f x).length=k){i:Nat}{x:α}(l:L[i]?=ag x):∃g d,v=aB (ag ⟨g,0,ae⟩) L.length d/\i<L.length/\L.length<=d/\(∀j,j<k->w.cell? ⟨g,i*k+j,ae⟩=(f x)[j]?)/\∀j,w.frozen? ⟨g,j,ae⟩=ah:=by
 have o:i<L.length:=(aK.1 l).1
 rcases h.2 with⟨rfl,s⟩ | ⟨g,a,m,rfl,u,e,c,y,z,r⟩
 ·omega
 ·refine⟨g,a,rfl,o,c,λj q=>?_,λj=>bQ j e⟩
  have:=kC f k p L i j q
  rw[l]at this
  rw[aZ _ e,<-eQ]
  rw[<-r,dt,bj (by have:=dp k (show i+1<=L.length by omega);rw[dT]at this;omega)]at this
  exact this
theorem iT(w:am)(cs:List ar)(E:au):∀j u,cs[j]?=ag u->(w.alloc (.cells cs.toArray E)).cell? ((⟨w.heap.size,0,ae⟩:Addr).add j)=ag u:=λj u h=>by
 rw[show(⟨w.heap.size,0,ae⟩:Addr).add j=⟨w.heap.size,j,ae⟩by unfold Addr.add;split <;> simp_all,aZ _ (bp w _),oK]
 exact h
theorem cY{w:am}{ops:Array Oper}{c:List Oper}{o:Oper}{a:Act}{Q:Exit->Act->am->Prop}(r:o.guard=ae)(s x:Operand)(T E:au)
 (I:o.op=.call { callee:=.builtin .append,args:=#[s,x],argTypes:=#[T,T] }) {k bytes:Nat} {z:ar} (C:Tryz.prog.underlying T=ag (.slice E)) (B:(Tryz.prog.info? E).map (λi=>(i.zero,i.size,i.bytes))=ag (ag z,k,bytes)) (M:z.cells.size=k) (H:0<k) (D:bytes<=1024)
 {α:Type} (f:α->List ar) (F:∀x,(f x).length=k) (p:∀x,∀u∈f x,u.oneCell'=aj) (v:ar) (L:List α) (J:a.eval s=v) (N:fC f E k w v L) (m:Addr) (y:α) (hx:a.eval x=aB (ag m) 1 1) (K:∀j t,(f y)[j]?=ag t->w.cell? (m.add j)=ag t) (q:L.length<=1000000)
 (h:∀e w',fC f E k w' e (L++[y])->w.grownBy w' v.ownBlock->(∀j,e.ownBlock=ag j->v.ownBlock=ag j\/w.heap.size<=j)->wpList ax ops Q c (a.put o.dst e) w'):wpList ax ops Q (o::c) a w:=by
 obtain⟨i,G,S,O,P⟩:=sy B
 refine wpList_append_own_at (w:=w) r s x T I 0 E i z k bytes C G S O P M H v L.length (L.flatMap f) J N m 1 1 (f y) hx (by rw[F,kQ]) K (p y)
  (by simp only[maxLen];omega) (by have:=jU (show L.length+1<=1000001 by omega) D;omega) Rc ?_
 intro e w' p A U d
 refine h e w' (by unfold fC;rw[aN,EA,eC,List.flatMap_nil,eP];exact p) A λj l=>?_
 rcases d with d | d
 ·exact .inl (d▸l)
 ·rw[d]at l;injection l with l;exact .inr (by omega)
structure im{α:Type}(f:α->List ar)(E:au)(k:Nat)(w:am)(g:Tg)(t:Nat)(v:ar)(L:List α):Prop where
 own:fC f E k w v L
 tag:∀q,v.ownBlock=ag q->g q=t
section
variable{α:Type}{f:α->List ar}{T:List Nat}{g g':Tg}{w w':am}{t k:Nat}{E:au}{v:ar}{L:List α}
theorem fC.lt(h:fC f E k w v L):∀q,v.ownBlock=ag q->q<w.heap.size:=λq c=>by
 obtain⟨-,a,d⟩:=dq h c
 exact aT d
theorem fC.same(h:fC f E k w v L)(c:∀q,v.ownBlock=ag q->w'.heap[q]?=w.heap[q]?):fC f E k w' v L:=dC h c
theorem fC.below(h:fC f E k w v L)(c:Below w.heap.size w w'):fC f E k w' v L:=h.same λq a=>c.block q (h.lt q a)
theorem im.ch(h:im f E k w g t v L)(c:Ch T g w g' w')(d:t∉T):im f E k w' g' t v L:=
 ⟨h.own.same λq a=>c.gP q (h.own.lt q a) (by rw[h.tag q a];exact d),λq a=>(c.tag q (h.own.lt q a)).trans (h.tag q a)⟩
theorem im.below(h:im f E k w g t v L)(c:Below w.heap.size w w'):im f E k w' g t v L:=⟨h.own.below c,h.tag⟩
theorem im.nil(f:α->List ar)(E:au)(k:Nat)(w:am)(g:Tg)(t:Nat):im f E k w g t (aB ae 0 0) []:=⟨fC.nil f E k w,λq a=>by cases a⟩
theorem im.iZ(h:im f E k w g t v L){b i:Nat}{u:ar}(a:g b≠t):im f E k (w.setCell ⟨b,i,ae⟩ u) g t v L:=⟨h.own.same λq c=>bD (λe=>a (by rw[<-e];exact h.tag q c)),h.tag⟩
end
def aai(L R:List ar):Array ar:=(L++R.drop L.length).toArray
theorem zR{w:am}{ops:Array Oper}{c:List Oper}{o:Oper}{a:Act}{Q:Exit->Act->am->Prop}(G:o.guard=ae){d s:Operand}(T:au)
 (ho:o.op=.call { callee:=.builtin .copy,args:=#[d,s],argTypes:=#[T,T] }) (E:au) (k:Nat) (D:Tryz.prog.underlying T=ag (.slice E)) (F:(Tryz.prog.info? E).map (·.size)=ag k)
 (g r p:Nat) (V:a.eval d=aB (ag ⟨g,0,ae⟩) r p) (R:List ar) (t:au) (z:w.heap[g]?=ag (.cells R.toArray t (0,0))) (v:ar) (n:Nat) (L:List ar) (hs:a.eval s=v) (l:w.ownsRow 0 E k v n L) (Z:n<=r) (I:L.length<=R.length) (N:∀u∈L,u.oneCell'=aj)
 (h:∀w',Hid (w'.heap[g]?=ag (aG (aai L R) t (0,0)))->Hid (w.grownBy w' (ag g))->wpList ax ops Q c (a.put o.dst (goInt n)) w'):wpList ax ops Q (o::c) a w:=by
 have uP:∃w',(Builtin.copy_ #[T,T] o.type #[aB (ag ⟨g,0,ae⟩) r p,v]).run ax w=.ok (goInt n) w'/\w'.heap[g]?=ag (aG (L++R.drop L.length).toArray t (0,0))/\w.grownBy w' (ag g):=by
  have H:=run_storeCells_at ax g 0 t L 0 R.toArray w z (by simpa using I) N
  have C:=l.1
  cases m:Tryz.prog.info? E with
  | none=>simp[m]at F
  | some i=>
   have X:i.size=k:=by simpa[m]using F
   have B:(w.setRow g (L++R.drop L.length).toArray).heap[g]?=ag (aG (L++R.drop L.length).toArray t (0,0)):=oQ w g _ _ t _ z
   have A:w.grownBy (w.setRow g (L++R.drop L.length).toArray) (ag g):=⟨rfl,rfl,rfl,by simp,λq _ m=>setRow_other w g q _ (λe=>m (by rw[e]))⟩
   rcases l.2 with⟨rfl,rfl⟩ | ⟨b,y,M,rfl,-,hc,J,-,-,tZ⟩
   ·obtain rfl:L=[]:=eu (by simpa using C)
    refine⟨w,?_,by simpa using z,World.grownBy.refl _ _⟩
    simp[Builtin.copy_,run_underlying D,Builtin.lenOf,Builtin.firstCells,sizeOf,typeInfo,m,storeCells]
   ·refine⟨_,?_,B,A⟩
    have W:=run_firstCells_some (P:=ax) w k n ⟨b,0,ae⟩ n y L C (λj u Y=>l.cells rfl j u Y)
    have x:min n r=n:=by omega
    simp[Builtin.copy_,run_underlying D,Builtin.lenOf,sizeOf,typeInfo,m,X,W,H,x]
 obtain⟨w',B,O,S⟩:=uP
 refine wpList_plain G λK U=>?_
 unfold Oper.wp
 simp[execOp,ho,resolve,invoke,builtin,V,hs,B,Result.andThen]
 exact U _ _ (h w' (aH O) (aH S))
theorem uT{α:Type}(f:α->List ar)(k:Nat)(a:∀x,(f x).length=k):∀(L:List α) (n:Nat),(L.flatMap f).drop (n*k)=(L.drop n).flatMap f
 | L,0=>by simp
 | [],n+1=>by simp
 | x::L,n+1=>by
  rw[eC,aI,<-uT f k a L n,List.drop_append,a,show(n+1)*k-k=n*k by rw[dT];omega,List.drop_eq_nil_of_le (by rw[a,dT];omega),fY]
theorem A7{α:Type}(f:α->List ar)(k:Nat)(p:0<k)(c:∀x,(f x).length=k)(z:Array ar)(x:α)(l:f x=z.toList)(m:Nat):(madeCells z (m*k)).toList=(List.replicate m x).flatMap f:=by
 have a:z.size=k:=by rw[<-Array.length_toList,<-l,c]
 apply jc
 intro i
 by_cases j:i<m*k
 ·have o:i/k<m:=Nat.div_lt_of_lt_mul (by rw[fR];exact j)
  have d:=nj i p
  have e:=Nat.div_add_mod i k
  have h:=kC f k c (List.replicate m x) (i/k) (i%k) d
  rw[show i/k*k+i%k=i by rw[fR];exact e,mh,bj o]at h
  rw[h]
  simp only[Option.bind_some,l]
  rw[eQ,eQ,QC (by rw[size_madeCells];exact j),QC (by rw[a];exact d)]
  simp only[madeCells,Array.getElem_map,Array.getElem_range,a]
  rw[getElem!_pos z (i%k) (by rw[a];exact d)]
 ·rw[gH (by rw[Array.length_toList,size_madeCells];omega),gH (by rw[jC f k c,dW];omega)]
theorem xP(T E:au){k bytes:Nat}{z:ar}(j:Tryz.prog.underlying T=ag (.slice E))(e:(Tryz.prog.info? E).map (λi=>(i.zero,i.size,i.bytes))=ag (ag z,k,bytes))(l:bytes<=1024)(m:Nat)(N:Int)(h:N=(m:Int))(p:m<=1000000)(w:am):
 (Instr.makeSlice T (ay az N) (ay az N)).run ax w=.ok (aB (ag ⟨w.heap.size,0,ae⟩) m m) (w.alloc (aG (madeCells z.cells (m*k)) E)):=by
 obtain⟨i,o,s,q,r⟩:=sy e
 subst h
 have a:(i.bytes:Int)*(m:Int)<=281474976710656:=by
  have u:=jU l p
  have d:((bytes*m:Nat):Int)<=281474976710656:=by omega
  rw[r]
  rwa [Int.natCast_mul]at d
 have c:=run_make (P:=ax) w T E i z j o s .i64 .i64 m m (by omega) (Q9 _) a (by omega)
 rw[q]at c
 simpa only[Int.toNat_natCast]using c
theorem bG(w:am)(cs:Array ar)(t:au):∃w',World.alloc w (.cells cs t)=w'/\Hid (Below w.heap.size w w')/\Hid (w'.heap[w.heap.size]?=ag (.cells cs t (0,0))):=⟨_,rfl,aH (aY w _),aH (bp w _)⟩
def kq(c:Nat):Bool:=(97<=c&&c<=122) || (48<=c&&c<=57)
def okC(c:Nat):Bool:=kq c || c==46 || c==45
theorem ya{c:Nat}(j:c<=255)(w:am):aw ax 158 #[ay .u8 (c:Int)] w λe w'=>e=aF (aC (kq c))/\w'=w:=by
 have P:=bP (kq c)
 obtain⟨b,d⟩:=P
 rw[d]
 have a:=aH d
 clear d
 go_in
 by_cases h:97<=(c:Int)
 ·by_cases i:(c:Int)<=122
  ·obtain rfl:aj=b:=by rw[<-a.out];unfold kq;simp;omega
   go_wp2_with fail
   go_ret
   exact⟨rfl,rfl⟩
  ·obtain rfl:ah=b:=by rw[<-a.out];unfold kq;simp;omega
   have f:48<=(c:Int):=by omega
   have g:¬(c:Int)<=57:=by omega
   go_wp2_with fail
   go_ret
   exact⟨rfl,rfl⟩
 ·by_cases f:48<=(c:Int)
  ·by_cases g:(c:Int)<=57
   ·obtain rfl:aj=b:=by rw[<-a.out];unfold kq;simp;omega
    go_wp2_with fail
    go_ret
    exact⟨rfl,rfl⟩
   ·obtain rfl:ah=b:=by rw[<-a.out];unfold kq;simp;omega
    go_wp2_with fail
    go_ret
    exact⟨rfl,rfl⟩
  ·obtain rfl:ah=b:=by rw[<-a.out];unfold kq;simp;omega
   go_wp2_with fail
   go_ret
   exact⟨rfl,rfl⟩
def kK(s:ByteArray):Bool:=1<=s.size&&s.size<=64&&kq (s.data.toList.getD 0 0).toNat&&kq (s.data.toList.getD (s.size-1) 0).toNat&&s.data.toList.all (λc=>okC c.toNat)
theorem Kr(s:ByteArray)(i:Nat)(h:i<s.size):s[i]=s.data.toList.getD i 0:=by
 have a:i<s.data.size:=h
 show s.data[i]=_
 rw[fX,eQ,QC a,Option.getD_some]
theorem SH(s:ByteArray)(w:am)(h:kK s=aj):aw ax 123 #[.string s] w λe w'=>e=aF (aC aj)/\w'=w:=by
 unfold kK at h
 simp only[co,dH]at h
 obtain⟨⟨⟨⟨u,y⟩,d⟩,f⟩,g⟩:=h
 have p:=aH (show ∀h:0<s.size,kq s[0].toNat=aj from λh=>by rw[Kr];exact d)
 have q:=aH (show ∀(i:Nat) (h:i<s.size),i+1=s.size->kq s[i].toNat=aj from λi h e=>by rw[Kr,show i=s.size-1 by omega];exact f)
 have r:=aH (show ∀(i:Nat) (h:i<s.size),okC s[i].toNat=aj from λi h=>by
  rw[Kr]
  have:=List.all_eq_true.1 g (s.data.toList.getD i 0) (by
   have b:i<s.data.toList.length:=by simpa using h
   rw[fX,aP b,Option.getD_some]
   exact qH b)
  exact this)
 obtain⟨n,B⟩:=bP s.size
 rw[B]at u y
 have H:(1:Int)<=n:=by omega
 have I:(n:Int)<=64:=by omega
 clear d f g
 go_in
 go_wp2_with fail
 refine(ya (by have:=s[0].toNat_lt;omega) w).mono ?_
 rw[p.out]
 rintro x w' ⟨rfl,rfl⟩
 obtain⟨m,rfl⟩:∃m,n=m+1:=⟨n-1,by omega⟩
 have J:IntKind.i64.wrap ((m+1:Nat)-1:Int)=(m:Int):=kT _ (by omega) |>.trans (by omega)
 go_wp2_with fail
 refine(ya (by have:=s[m].toNat_lt;omega) w').mono ?_
 rw[q.out m _ (by omega)]
 rintro x o ⟨rfl,rfl⟩
 go_wp2_with fail
 go_loopw [3] (λi wr=>∃k:Nat,k<=m+1/\i=ay az k/\wr=o) (λi _=>m+1-(intOf i).toNat)
 case atStart=>exact⟨0,by omega,rfl,rfl⟩
 case round=>
  obtain⟨k,F,rfl,rfl⟩:=hrel
  by_cases E:k<m+1
  ·have G:(k:Int)<(m:Int)+1:=by omega
   have C:k<s.size:=by omega
   go_wp2_with fail
   refine(ya (by have:=s[k].toNat_lt;omega) wr).mono ?_
   have a:=r.out k C
   obtain⟨c,z⟩:=bP (s[k].toNat)
   rw[z]at a ⊢
   rintro x o ⟨rfl,rfl⟩
   by_cases j:kq c=aj
   ·rw[j]
    go_wp2_with fail
    go_roundw
    case rel=>exact⟨k+1,by omega,by go_num,trivial⟩
    case measure=>simp[intOf];omega
   ·have l:kq c=ah:=by simpa using j
    rw[l]
    unfold okC at a
    rw[l]at a
    by_cases e:c=46
    ·have t:((c:Int) !=46)=ah:=by simp;omega
     go_wp2_with fail
     go_roundw
     case rel=>exact⟨k+1,by omega,by go_num,trivial⟩
     case measure=>simp[intOf];omega
    ·have D:c=45:=by simpa[e]using a
     have t:((c:Int) !=45)=ah:=by simp;omega
     go_wp2_with fail
     go_roundw
     case rel=>exact⟨k+1,by omega,by go_num,trivial⟩
     case measure=>simp[intOf];omega
  ·have A:(m:Int)+1<=(k:Int):=by omega
   go_wp2_with fail
   go_ret
   exact⟨rfl,rfl⟩
def UU:List (BitVec 8):=[48#8,48#8,48#8,48#8,48#8,48#8,48#8,48#8,48#8,48#8,48#8,48#8,48#8,48#8,48#8,49#8]
def PS(k:Nat):Array ar:=((List.range 16).map λj=>Value.int .u8 (if 16<=j+k then(if j=15 then 49 else 48)else 0)).toArray
def om:ByteArray:=⟨#[115,101,103,45,48,48,48,48,48,48,48,48,48,48,48,48,48,48,48,49,46,108,111,103]⟩
theorem PR(k:Nat)(a:k<16):(PS k).setIfInBounds (15-k) (ay .u8 (if k=0 then 49 else 48))=PS (k+1):=by
 match k,a with
 | 0,_=>rfl
 | 1,_=>rfl
 | 2,_=>rfl
 | 3,_=>rfl
 | 4,_=>rfl
 | 5,_=>rfl
 | 6,_=>rfl
 | 7,_=>rfl
 | 8,_=>rfl
 | 9,_=>rfl
 | 10,_=>rfl
 | 11,_=>rfl
 | 12,_=>rfl
 | 13,_=>rfl
 | 14,_=>rfl
 | 15,_=>rfl
 | n+16,h=>exact absurd h (by omega)
theorem Y8(k:Nat)(a:k<16):(PS k)[15-k]?=ag (ay .u8 0):=by
 match k,a with
 | 0,_=>rfl
 | 1,_=>rfl
 | 2,_=>rfl
 | 3,_=>rfl
 | 4,_=>rfl
 | 5,_=>rfl
 | 6,_=>rfl
 | 7,_=>rfl
 | 8,_=>rfl
 | 9,_=>rfl
 | 10,_=>rfl
 | 11,_=>rfl
 | 12,_=>rfl
 | 13,_=>rfl
 | 14,_=>rfl
 | 15,_=>rfl
 | n+16,h=>exact absurd h (by omega)
theorem UV(i:Nat)(a:i<16):(PS 16)[i]?=ag (ay .u8 (bv (sh UU i))):=by
 match i,a with
 | 0,_=>rfl
 | 1,_=>rfl
 | 2,_=>rfl
 | 3,_=>rfl
 | 4,_=>rfl
 | 5,_=>rfl
 | 6,_=>rfl
 | 7,_=>rfl
 | 8,_=>rfl
 | 9,_=>rfl
 | 10,_=>rfl
 | 11,_=>rfl
 | 12,_=>rfl
 | 13,_=>rfl
 | 14,_=>rfl
 | 15,_=>rfl
 | n+16,h=>exact absurd h (by omega)
theorem Xs:(⟨#[115,101,103,45]⟩:ByteArray)++abI UU++(⟨#[46,108,111,103]⟩:ByteArray)=om:=by decide +kernel
theorem Jj(w:am):aw ax 106 #[ay az 1] w λe w'=>e=aF (.tuple #[.string om,ay az 0])/\Below w.heap.size w w':=by
 have c:=aY w (aG #[Value.int IntKind.u8 0,Value.int IntKind.u8 0,Value.int IntKind.u8 0,Value.int IntKind.u8 0,Value.int IntKind.u8 0,Value.int IntKind.u8 0,Value.int IntKind.u8 0,Value.int IntKind.u8 0,Value.int IntKind.u8 0,Value.int IntKind.u8 0,Value.int IntKind.u8 0,Value.int IntKind.u8 0,Value.int IntKind.u8 0,Value.int IntKind.u8 0,Value.int IntKind.u8 0,Value.int IntKind.u8 0] 302)
 have d:(w.alloc (aG #[Value.int IntKind.u8 0,Value.int IntKind.u8 0,Value.int IntKind.u8 0,Value.int IntKind.u8 0,Value.int IntKind.u8 0,Value.int IntKind.u8 0,Value.int IntKind.u8 0,Value.int IntKind.u8 0,Value.int IntKind.u8 0,Value.int IntKind.u8 0,Value.int IntKind.u8 0,Value.int IntKind.u8 0,Value.int IntKind.u8 0,Value.int IntKind.u8 0,Value.int IntKind.u8 0,Value.int IntKind.u8 0] 302)).heap[w.heap.size]?=ag (aG (PS 0) 302 (0,0)):=bp w (aG #[Value.int IntKind.u8 0,Value.int IntKind.u8 0,Value.int IntKind.u8 0,Value.int IntKind.u8 0,Value.int IntKind.u8 0,Value.int IntKind.u8 0,Value.int IntKind.u8 0,Value.int IntKind.u8 0,Value.int IntKind.u8 0,Value.int IntKind.u8 0,Value.int IntKind.u8 0,Value.int IntKind.u8 0,Value.int IntKind.u8 0,Value.int IntKind.u8 0,Value.int IntKind.u8 0,Value.int IntKind.u8 0] 302)
 obtain⟨x,l⟩:=bP (w.alloc (aG #[Value.int IntKind.u8 0,Value.int IntKind.u8 0,Value.int IntKind.u8 0,Value.int IntKind.u8 0,Value.int IntKind.u8 0,Value.int IntKind.u8 0,Value.int IntKind.u8 0,Value.int IntKind.u8 0,Value.int IntKind.u8 0,Value.int IntKind.u8 0,Value.int IntKind.u8 0,Value.int IntKind.u8 0,Value.int IntKind.u8 0,Value.int IntKind.u8 0,Value.int IntKind.u8 0,Value.int IntKind.u8 0] 302))
 rw[l]at c d
 have f:=aH c
 have g:=aH d
 clear c d
 go_in
 go_wp2_with fail
 go_loopw [8] (λi wr=>∃k:Nat,k<=16/\i=ay az k/\Hid (wr.heap[w.heap.size]?=ag (aG (PS k) 302 (0,0)))/\Hid (Below w.heap.size w wr)) (λi _=>16-(intOf i).toNat)
 case atStart=>exact⟨0,by omega,rfl,g,f⟩
 case round=>
  clear g f
  obtain⟨k,s,rfl,R,B⟩:=hrel
  by_cases h:k<16
  ·have u:(k:Int)<16:=by omega
   have a:=aH (bE R.out (15-k) (ay .u8 (if k=0 then 49 else 48)))
   rw[PR k h]at a
   have b:=aH (B.out.setCell (p:=⟨w.heap.size,15-k,ae⟩) dx (ay .u8 (if k=0 then 49 else 48)))
   have o:=bQ (15-k) R.out
   have n:wr.cell? ⟨w.heap.size,15-k,ae⟩=ag (ay .u8 0):=(aZ (15-k) R.out).trans (Y8 k h)
   rcases gV k with rfl | t
   ·go_wp2_with fail
    go_roundw
    case rel=>exact⟨1,by omega,by go_num,a,b⟩
    case measure=>simp[intOf]
   ·have r:bits BinOp.and IntKind.i64 (1/2^(4*k)) 15=0:=by
     have:(1:Int)/2^(4*k)=0:=Int.ediv_eq_zero_of_lt (by decide) (by
      have q:(2:Int)^1<=2^(4*k):=by exact_mod_cast p9 (by decide) (by omega)
      omega)
     rw[this]
     decide
    rw[bf (by omega)]at a b
    go_wp2_with fail
    go_roundw
    case rel=>exact⟨k+1,by omega,by go_num,a,b⟩
    case measure=>simp[intOf];omega
  ·obtain rfl:k=16:=by omega
   have j:=aH (show cD wr (ag ⟨w.heap.size,0,ae⟩) UU from λi m=>⟨w.heap.size,0,rfl,by rw[cL,aZ _ R.out,UV i m]⟩)
   have CV:=GX wr w.heap.size 0 16 16 UU j.out rfl
   go_wp2_with fail
   go_ret2
   refine⟨?_,B.out⟩
   show Ending.returned (.tuple #[.string ((⟨#[115,101,103,45]⟩:ByteArray)++abI UU++(⟨#[46,108,111,103]⟩:ByteArray)),ay az 0])=_
   rw[Xs]
def GY:ByteArray:=⟨#[99,97,116,97,108,111,103]⟩
def mT:ByteArray:=⟨#[99,97,116,97,108,111,103,45,110,101,120,116]⟩
theorem yc(w:am):aw ax 67 #[] w λe w'=>e=aF (.string GY)/\w'=w:=by
 go_in
 go_wp2_with fail
 go_ret
 exact⟨rfl,rfl⟩
theorem Lt(w:am):aw ax 121 #[] w λe w'=>e=aF (.string mT)/\w'=w:=by
 go_in
 go_wp2_with fail
 go_ret
 exact⟨rfl,rfl⟩
theorem Cr:kK om=aj:=by decide +kernel
theorem Lx:kK GY=aj:=by decide +kernel
theorem tV:kK mT=aj:=by decide +kernel
structure zB where
 most:Int
 fA:ar
 c0:Int
 c1:Int
 c2:Int
 c3:Int
 c4:Int
 c5:Int
 c6:Int
 c7:Int
 c8:Int
 since:Int
def zB.cells(d:zB)(nb lb:Nat):Array ar:=#[aC aj,aC aj,ay az d.most,.map (ag nb),.map (ag lb),d.fA,ay az d.c0,ay az d.c1,ay az d.c2,ay az d.c3,ay az d.c4,ay az d.c5,ay az d.c6,ay az d.c7,ay az d.c8,aB ae 0 0,ay az d.since]
def iF(w:am)(db nb lb:Nat)(d:zB):Prop:=w.heap[db]?=ag (aG (d.cells nb lb) 138 (0,0))
section
variable{w w':am}{db nb lb:Nat}{d:zB}{S:Nat->Prop}
theorem iF.dV(h:iF w db nb lb d)(a:Below w.heap.size w w'):iF w' db nb lb d:=(a.block _ (aT h)).trans h
theorem iF.pW(h:iF w db nb lb d)(a:iD S w w')(b:¬ S db):iF w' db nb lb d:=a.dV h b
theorem iF.cell(h:iF w db nb lb d)(j:Nat):w.cell? ⟨db,j,ae⟩=(d.cells nb lb)[j]?:=aZ j h
theorem iF.free(h:iF w db nb lb d)(j:Nat):w.frozen? ⟨db,j,ae⟩=ah:=bQ j h
end
theorem zW{c:Func}{p:Tmp}(h:c.results=#[.cell p 145]){a:Array ar}{w:am}(b:Nat){x y z:ar}
 (i:a.getD p undef=aA (ag ⟨b,0,ae⟩)) (e:w.cell? ⟨b,0,ae⟩=ag x) (f:w.cell? ⟨b,1,ae⟩=ag y) (g:w.cell? ⟨b,2,ae⟩=ag z):
 (results c a).run ax w=.ok (.agg #[x,y,z]) w:=by
 have j:a[p]?.getD undef=aA (ag ⟨b,0,ae⟩):=by simpa using i
 simp[results,h,j,go_sem,e,f,g,asAddr,loadVar,Result.andThen]
theorem UR(db nb lb:Nat)(d:zB)(w:am)(h:iF w db nb lb d):
 aw ax 83 #[aA (ag ⟨db,0,ae⟩)] w λe w'=>e=aF (aC aj)/\w'=w:=by
 have a:w.cell? ⟨db,0,ae⟩=ag (aC aj):=h.cell 0
 have b:w.cell? ⟨db,1,ae⟩=ag (aC aj):=h.cell 1
 go_in
 go_wp2_with fail
 go_ret
 exact⟨rfl,rfl⟩
def jm:ar:=.agg #[ay az 0,ay az 0,ay az 0]
structure Opd(w w':am)(db nb lb:Nat)(d d':zB):Prop where
 ie:iF w' db nb lb d'
 most:d'.most=d.most
 fA:d'.fA=d.fA
 pW:iD (·=db) w w'
def XJ(w:am)(r:Nat):am:=((w.setCell ⟨r,0,ae⟩ (ay az 0)).setCell ⟨r,1,ae⟩ (ay az 0)).setCell ⟨r,2,ae⟩ (ay az 0)
theorem PM{w e:am}{db nb lb o:Nat}{d:zB}(k:Below w.heap.size w e)(H:iF e db nb lb d)(m:db<w.heap.size)(l:o=6\/o=7\/o=8\/o=10\/o=12)(a b c:Int)
 (E:e.heap[w.heap.size]?=ag (aG #[ay az 0,ay az 0,ay az 0] 145 (0,0))):
 (∃j,Opd w (XJ (((e.setCell ⟨db,o,ae⟩ (ay az a)).setCell ⟨db,13,ae⟩ (ay az b)).setCell ⟨db,16,ae⟩ (ay az c)) w.heap.size) db nb lb d j)/\
 (XJ (((e.setCell ⟨db,o,ae⟩ (ay az a)).setCell ⟨db,13,ae⟩ (ay az b)).setCell ⟨db,16,ae⟩ (ay az c)) w.heap.size).heap[w.heap.size]?=ag (aG #[ay az 0,ay az 0,ay az 0] 145 (0,0)):=by
 have r:=bE (bE (bE H o (ay az a)) 13 (ay az b)) 16 (ay az c)
 have f:db≠w.heap.size:=by omega
 have g:=(bD (w:=((((e.setCell ⟨db,o,ae⟩ (ay az a)).setCell ⟨db,13,ae⟩ (ay az b)).setCell ⟨db,16,ae⟩ (ay az c)).setCell ⟨w.heap.size,0,ae⟩ (ay az 0)).setCell ⟨w.heap.size,1,ae⟩ (ay az 0)) (i:=2) (u:=ay az 0) f).trans ((bD (i:=1) (u:=ay az 0) f).trans ((bD (i:=0) (u:=ay az 0) f).trans r))
 have C:iD (·=db) w (XJ (((e.setCell ⟨db,o,ae⟩ (ay az a)).setCell ⟨db,13,ae⟩ (ay az b)).setCell ⟨db,16,ae⟩ (ay az c)) w.heap.size):=
  (((((((iD.bh (S:=λx=>x=db) k).set _ (.inl rfl)).set _ (.inl rfl)).set _ (.inl rfl)).set _ (.inr dx)).set _ (.inr dx)).set _ (.inr dx))
 have h:=bE (bE (bE ((bD (i:=16) (u:=ay az c) (cQ f)).trans ((bD (i:=13) (u:=ay az b) (cQ f)).trans ((bD (i:=o) (u:=ay az a) (cQ f)).trans E))) 0 (ay az 0)) 1 (ay az 0)) 2 (ay az 0)
 refine⟨?_,h⟩
 rcases l with rfl | rfl | rfl | rfl | rfl
 ·exact⟨⟨d.most,d.fA,a,d.c1,d.c2,d.c3,d.c4,d.c5,d.c6,b,d.c8,c⟩,g,rfl,rfl,C⟩
 ·exact⟨⟨d.most,d.fA,d.c0,a,d.c2,d.c3,d.c4,d.c5,d.c6,b,d.c8,c⟩,g,rfl,rfl,C⟩
 ·exact⟨⟨d.most,d.fA,d.c0,d.c1,a,d.c3,d.c4,d.c5,d.c6,b,d.c8,c⟩,g,rfl,rfl,C⟩
 ·exact⟨⟨d.most,d.fA,d.c0,d.c1,d.c2,d.c3,a,d.c5,d.c6,b,d.c8,c⟩,g,rfl,rfl,C⟩
 ·exact⟨⟨d.most,d.fA,d.c0,d.c1,d.c2,d.c3,d.c4,d.c5,a,b,d.c8,c⟩,g,rfl,rfl,C⟩
theorem kD(db nb lb o:Nat)(d:zB)(w:am)(H:Hid (iF w db nb lb d))(h:o=6\/o=7\/o=8\/o=10\/o=12):
 aw ax 84 #[aA (ag ⟨db,0,ae⟩),aA (ag ⟨db,o,ae⟩)] w λe w'=>e=aF jm/\∃m,Opd w w' db nb lb d m:=by
 have g:=aY w (aG #[ay az 0,ay az 0,ay az 0] 145)
 have i:=bp w (aG #[ay az 0,ay az 0,ay az 0] 145)
 obtain⟨f,p⟩:=bP (w.alloc (aG #[ay az 0,ay az 0,ay az 0] 145))
 rw[p]at g i
 have k:=aH g
 have b:=aH i
 have a:=aH (H.out.dV g)
 have q:w.heap.size≠db:=by have:=aT H.out;omega
 have r:db≠w.heap.size:=cQ q
 have I:f.cell? ⟨db,13,ae⟩=ag (ay az d.c7):=a.out.cell 13
 have J:f.cell? ⟨db,15,ae⟩=ag (aB ae 0 0):=a.out.cell 15
 have K:f.cell? ⟨db,16,ae⟩=ag (ay az d.since):=a.out.cell 16
 have B:=a.out.free 13
 have C:=a.out.free 16
 have s:f.cell? ⟨w.heap.size,0,ae⟩=ag (ay az 0):=aZ 0 b.out
 have t:f.cell? ⟨w.heap.size,1,ae⟩=ag (ay az 0):=aZ 1 b.out
 have u:f.cell? ⟨w.heap.size,2,ae⟩=ag (ay az 0):=aZ 2 b.out
 have x:=bQ 0 b.out
 have y:=bQ 1 b.out
 have z:=bQ 2 b.out
 clear g i
 have n:=aH (PM k.out a.out (aT H.out) h)
 have j:∃c,f.cell? ⟨db,o,ae⟩=ag (ay az c):=by
  rcases h with rfl | rfl | rfl | rfl | rfl
  ·exact⟨d.c0,a.out.cell 6⟩
  ·exact⟨d.c1,a.out.cell 7⟩
  ·exact⟨d.c2,a.out.cell 8⟩
  ·exact⟨d.c4,a.out.cell 10⟩
  ·exact⟨d.c6,a.out.cell 12⟩
 obtain⟨c,j⟩:=j
 have A:=a.out.free o
 have o1:o≠13/\o≠16/\13≠o/\16≠o/\o≠15/\15≠o:=by omega
 obtain⟨o1,o2,o3,D,E,G⟩:=o1
 have l:=b
 clear h a
 go_in
 go_wp2_with fail
 refine sw 1 ?_
 rw[KU]
 go_wp2_with fail
 have F:=n.out (wrap64 (c+1)) (wrap64 (d.c7+1)) (wrap64 (d.since+1)) l.out
 unfold XJ at F
 refine bn (zW rfl w.heap.size rfl (aZ 0 F.2) (aZ 1 F.2) (aZ 2 F.2)) rfl ?_
 exact⟨rfl,F.1⟩
theorem PO(db:Nat)(w:am):aw ax 85 #[aA (ag ⟨db,0,ae⟩),jm] w λe w'=>e=aF (ay az 0)/\Below w.heap.size w w':=by
 unfold jm
 go_in
 go_wp2_with fail
 go_ret
 exact⟨rfl,aY _ _⟩
theorem sY:Keyed ax 9:=string_keyed Tryz.underlying9
theorem yo{key:ar}{kl:Lit}(h:keyOf ax 9 key=ag kl):∃s:ByteArray,key=.string s/\kl=.string s.data.toList/\s.size<=maxLen:=WideMaps.string_of_keyOf Tryz.underlying9 h
def p7(w:am)(f:Lit->Option ar)(K:Nat):Prop:=∀kl v,WideAt.IsKeyLit kl->f kl=ag v->∃c e a b,v=aA (ag ⟨c,0,ae⟩)/\w.cell? ⟨c,0,ae⟩=ag (aB e a b)/\a<=K
theorem Y7(db nb lb n K:Nat)(d:zB)(f:Lit->Option ar){w:am}(H:Hid (iF w db nb lb d))(M:fL w 9 nb n f)(F:Hid (p7 w f K))(hn:n<=256)(X:K<=16777216)(hm:0<=d.most/\d.most<=16777216):
 aw ax 153 #[aA (ag ⟨db,0,ae⟩)] w λe w'=>∃r:Int,e=aF (ay az r)/\d.most-(n*K:Nat)<=r/\r<=16777216/\0<=r/\Below w.heap.size w w':=by
 obtain⟨D,L,I,hh⟩:=M.ex
 have P:=aH I
 obtain⟨E,g⟩:=bP d.most
 have x2:w.cell? ⟨db,2,ae⟩=ag (ay az d.most):=H.out.cell 2
 have x3:w.cell? ⟨db,3,ae⟩=ag (.map (ag nb)):=H.out.cell 3
 rw[g]at x2 hm
 rw[g]
 have lC:=L.size_le
 clear I hh g
 go_in
 go_wp2_with (first
  | (at_range;refine wpList_range_own _ rfl _ 135 rfl 9 174 sY Tryz.underlying135 Rv nb n D rfl L ?_;intro w0 o B L9)
  | go_in)
 go_frame
 have k:=aH ((cX w.heap.size w).grown B dx (λj C=>by cases C))
 have Z:Hid ((n*K:Nat)<=4294967296):=aH (by have:=jU hn X;omega)
 go_loopw [3] (λs3 wr=>∃(t:Int) (left:Lit->Bool) (a:Nat),s3=ay az t/\wr.ranges ax 9 Rv nb w.heap.size n D left a/\a<=n/\E-(((n-a)*K:Nat):Int)<=t/\t<=E/\Hid (∀kl,left kl=aj->has D kl=aj)/\Hid (Below w.heap.size w wr))
  (λ_ wr=>wr.rangeLeft nb w.heap.size)
 case atStart=>exact⟨E,_,_,rfl,o,lC,by omega,Q9 _,aH λ_ h=>h,k⟩
 case round=>
  clear o k
  obtain⟨t,left,a,rfl,p,aa,q,ak,z,u⟩:=hrel
  have iL:((n-a)*K:Nat)<=n*K:=dp _ (by omega)
  have tz:-4294967296<=t/\t<=16777216:=by have:=Z.out;omega
  go_wp2_with (first
   | (at_next;refine wpList_next_ranges (α:=ByteArray) (β:=ar) _ rfl _ rfl 9 sY Rv Value.string id ?_ (λv y _=>⟨v,rfl⟩) nb w.heap.size n D _ _ rfl p ?_ ?_)
   | go_in)
  ·intro key kl G
   obtain⟨s,rfl,-⟩:=yo G
   exact⟨s,rfl⟩
  ·intro N ac
   by_cases W:0<=t
   ·have h1:¬ t<0:=by omega
    go_wp2_with fail
    go_ret
    exact⟨t,rfl,by subst N;rw[Nat.sub_zero]at q;omega,tz.2,W,u.out⟩
   ·go_wp2_with fail
    go_ret
    exact⟨0,rfl,by subst N;rw[Nat.sub_zero]at q;omega,by decide,by decide,u.out⟩
  ·intro x c kl y ps w1 b G af Y Q m V T ai ab
   have O:WideAt.IsKeyLit kl:=by obtain⟨s,-,rfl,-⟩:=yo G;trivial
   have hy:y=.held c:=(congrArg Prod.fst (iy Y)).symm
   have A:f kl=ag c:=by
    rw[<-P.out kl O,vQ,Q,hy]
    rfl
   obtain⟨fb,ao,i,U,rfl,hc,ad⟩:=F.out kl c O A
   have l:=aH (u.out.grown T u.out.size (λj C=>by cases C;exact bT _))
   have fc:=bL l.out hc
   have J:((n-b)*K:Nat)>=(n-a)*K+K:=by
    have:n-b>=(n-a)+1:=by omega
    calc (n-a)*K+K=((n-a)+1)*K:=by rw[Nat.succ_mul]
     _<=_:=dp _ this
   have z1:IntKind.i64.wrap (t-(i:Int))=t-(i:Int):=kT _ (by omega)
   go_wp2_with fail
   go_roundw
   case rel=>exact⟨t-(i:Int),_,b,rfl,m,by omega,by omega,by omega,aH λkl h=>z.out kl (by simp at h;exact h.1),l⟩
   case measure=>rw[m.left_eq,p.left_eq];exact V
def fS(s:ByteArray):Lit:=.string s.data.toList
theorem vE(w:am):(zeroValue 174).run ax w=.ok (aA ae) w:=by
 kernel_rfl
theorem ui(db nb lb n:Nat)(d:zB)(f:Lit->Option ar)(s:ByteArray)(w:am)(H:iF w db nb lb d)(M:fL w 9 nb n f)(b:kK s=aj)(p:Option Addr)(c:(f (fS s)).getD (aA ae)=aA p):
 aw ax 99 #[aA (ag ⟨db,0,ae⟩),.string s] w λe w'=>e=aF (.tuple #[aA p,ay az (if p=ae then 6 else 0)])/\w'=w:=by
 have g:s.size<=maxLen:=by
  unfold kK at b
  simp only[co,dH]at b
  have:=b.1.1.1.2
  unfold maxLen;omega
 have j:=M.look sY Tryz.underlying135 (vE w) (WideMaps.keyOf_string_mk Tryz.underlying9 g) trivial
 rw[show f (.string s.data.toList)=f (fS s)from rfl,c]at j
 have l:w.cell? ⟨db,3,ae⟩=ag (.map (ag nb)):=H.cell 3
 have i:=aH b
 have h:=aH H
 clear b H c g M
 go_in
 go_wp2_with fail
 refine(UR db nb lb d w h.out).mono ?_
 rintro e w' ⟨rfl,rfl⟩
 go_wp2_with fail
 refine(SH s w' i.out).mono ?_
 rintro e k ⟨rfl,rfl⟩
 cases p with
 | none=>
  go_wp2_with fail
  go_ret2
  exact⟨rfl,rfl⟩
 | some a=>
  go_wp2_with fail
  go_ret2
  exact⟨rfl,rfl⟩
end
end Go.Proofs.YtooinenkenobaaaGreat

/- A part of the proof of what LawWholeReaders says. -/
import Derived.Test.YtooinenkenobaaaGreatAa
import Derived.Test.YtooinenkenobaaaGreatCr
import Derived.Test.YtooinenkenobaaaGreatCq
import Derived.Test.YtooinenkenobaaaGreatBl
set_option maxRecDepth 100000
set_option maxHeartbeats 20000000
namespace Go.Proofs.YtooinenkenobaaaGreat
open Option renaming none->ae,some->ag
open Bool renaming false->ah,true->aj
open Go.Proofs.Tryz renaming prog->ax
open Go.Value renaming int->ay,pointer->aA,slice->aB,bool->aC,float->aD
open Go.IntKind renaming i64->az
open Go.FloatKind renaming f64->aE
open Go.Ending renaming returned->aF
open Go.Obj renaming cells->aG
open Go renaming World->am,Value->ar,TypeId->au,Calls->aw
section
open Go.RowKit Go.Maps
theorem tR{z:Func}{p t:Tmp}(h:z.results=#[.cell p 45,.tmp t]){a:Array ar}{w:am}(b:Nat){A C D E F G H I J L f c j y x i u s r q e d o n m l:ar}
 (M:a.getD p undef=aA (ag ⟨b,0,ae⟩)) {Q:au} (O:w.heap[b]?=ag (aG #[A,C,D,E,F,G,H,I,J,L,f,c,j,y,x,i,u,s,r,q,e,d,o,n,m,l] Q (0,0))):
 (results z a).run ax w=.ok (.tuple #[.agg #[A,C,D,E,F,G,H,I,J,L,f,c,j,y,x,i,u,s,r,q,e,d,o,n,m,l],a.getD t undef]) w:=by
 have T:a[p]?.getD undef=aA (ag ⟨b,0,ae⟩):=by simpa using M
 have k:=sG O
 simp[results,h,T,go_sem,asAddr,loadVar,Result.andThen,k.2.1,k.2.2.1,k.2.2.2.1,k.2.2.2.2.1,k.2.2.2.2.2.1,k.2.2.2.2.2.2.1,k.2.2.2.2.2.2.2.1,k.2.2.2.2.2.2.2.2.1,k.2.2.2.2.2.2.2.2.2.1,k.2.2.2.2.2.2.2.2.2.2.1,k.2.2.2.2.2.2.2.2.2.2.2.1,k.2.2.2.2.2.2.2.2.2.2.2.2.1,k.2.2.2.2.2.2.2.2.2.2.2.2.2.1,k.2.2.2.2.2.2.2.2.2.2.2.2.2.2.1,k.2.2.2.2.2.2.2.2.2.2.2.2.2.2.2.1,k.2.2.2.2.2.2.2.2.2.2.2.2.2.2.2.2.1,k.2.2.2.2.2.2.2.2.2.2.2.2.2.2.2.2.2.1,k.2.2.2.2.2.2.2.2.2.2.2.2.2.2.2.2.2.2.1,k.2.2.2.2.2.2.2.2.2.2.2.2.2.2.2.2.2.2.2.1,k.2.2.2.2.2.2.2.2.2.2.2.2.2.2.2.2.2.2.2.2.1,k.2.2.2.2.2.2.2.2.2.2.2.2.2.2.2.2.2.2.2.2.2.1,k.2.2.2.2.2.2.2.2.2.2.2.2.2.2.2.2.2.2.2.2.2.2.1,k.2.2.2.2.2.2.2.2.2.2.2.2.2.2.2.2.2.2.2.2.2.2.2.1,k.2.2.2.2.2.2.2.2.2.2.2.2.2.2.2.2.2.2.2.2.2.2.2.2.1,k.2.2.2.2.2.2.2.2.2.2.2.2.2.2.2.2.2.2.2.2.2.2.2.2.2.1,k.2.2.2.2.2.2.2.2.2.2.2.2.2.2.2.2.2.2.2.2.2.2.2.2.2.2.1]
theorem Row.range{w:am}{g:Tg}{t b:Nat}{L:List ar}{c:au}(h:Row w g t b L.toArray c)(o:Nat):w.rangeAt b o (L.drop o):=λj v a=>by
 rw[h.cell (o+j)]
 rw[fF]at a
 simpa using a
theorem Row.there{w:am}{g:Tg}{t b:Nat}{cs:Array ar}{a:au}(h:Row w g t b cs a)(o n:Nat)(d:o+n<=cs.size):w.there b o n:=λj c=>⟨by
 rw[h.cell (o+j),QC (by omega)]
 rfl,h.free _⟩
theorem Ch.setRow{T:List Nat}{g c:Tg}{w i:am}(h:Ch T g w c i){b:Nat}(cs:Array ar)(a:c b∈T\/w.heap.size<=b):Ch T g w c (i.setRow b cs):=by
 refine⟨h.os,h.tape,h.output,by rw[setRow_size];exact h.size,h.tag,λq f d=>?_⟩
 rw[setRow_other _ _ _ _ (λe=>?_)]
 ·exact h.gP q f d
 ·subst e
  rcases a with a | a
  ·rw[h.tag q f]at a
   exact d a
  ·omega
theorem JV(a n m:Nat)(c:Int)(L:List gW)(f:Lit->Option ar)(w:am)(g:Tg)(H:nE w g a c L n m f):
 aw ax 19 #[aA (ag ⟨a,0,ae⟩)] w λe w'=>∃h i j k l o p q r:Int,e=aF (.agg #[ay az h,ay az i,ay az j,ay az k,ay az l,ay az o,ay az p,ay az q,ay az r])/\Below w.heap.size w w':=by
 obtain⟨d,C,z,y,b,-⟩:=H.ex
 have D:w.cell? ⟨a,6,ae⟩=ag (ay az d.c0):=b.cell 6
 have E:w.cell? ⟨a,7,ae⟩=ag (ay az d.c1):=b.cell 7
 have F:w.cell? ⟨a,8,ae⟩=ag (ay az d.c2):=b.cell 8
 have G:w.cell? ⟨a,9,ae⟩=ag (ay az d.c3):=b.cell 9
 have I:w.cell? ⟨a,10,ae⟩=ag (ay az d.c4):=b.cell 10
 have u:w.cell? ⟨a,11,ae⟩=ag (ay az d.c5):=b.cell 11
 have t:w.cell? ⟨a,12,ae⟩=ag (ay az d.c6):=b.cell 12
 have s:w.cell? ⟨a,13,ae⟩=ag (ay az d.c7):=b.cell 13
 have x:w.cell? ⟨a,14,ae⟩=ag (ay az d.c8):=b.cell 14
 have A:a<w.heap.size:=aT b
 clear b H
 go_in
 go_wp2_with fail
 refine bn (cH rfl _ _ w.heap.size 42 #[ay az d.c0,ay az d.c1,ay az d.c2,ay az d.c3,ay az d.c4,ay az d.c5,ay az d.c6,ay az d.c7,ay az d.c8] (0,0) _ rfl (bp w _) Tryz.underlying42 rfl (by kernel_rfl)) rfl ?_
 exact⟨_,_,_,_,_,_,_,_,_,rfl,aY _ _⟩
theorem mv.par{K:dw}{c d:Nat}{base sm:Int}(h:mv K c d base)(o:K.bU=c%9223372036854775808)(t:(K.b0:Int)=base)(r:base<=1152921504606846976)(n:1000<=sm):kW K ⟨sm,c,d⟩/\K.bU<=sW:=by
 obtain⟨a,b,s⟩:=h
 unfold oq at b
 simp only[co,dH]at b
 obtain⟨⟨⟨⟨f,i⟩,p,q⟩,j,k⟩,l,m⟩:=b
 have e:K.bU<=sW:=by rw[o];exact OJ j k
 refine⟨⟨⟨by omega,by omega,a.1,a.2.1,a.2.2.1,a.2.2.2,f,i⟩,tw e (by decide),n,l,m⟩,e⟩
structure MH(w:am)(g:Tg)(W:iw)(xG pav:ar)(L:List uC):Prop where
 tul:∃a c,xG=aB a W.turns.length c
 Jg:im IP 56 10 w g 72 pav L
 Ei:L.length=W.cJ.length
 pat:∀(j:Nat) (x:uC) (p:kN),L[j]?=ag x->W.cJ[j]?=ag p->Ky w g x p
theorem MH.ch{T:List Nat}{w w':am}{g g':Tg}{W:iw}{a pav:ar}{L:List uC}(h:MH w g W a pav L)(c:Ch T g w g' w')(b:0∉T)(e:72∉T):MH w' g' W a pav L:=
 ⟨h.tul,h.Jg.ch c e,h.Ei,λj x p d f=>(h.pat j x p d f).ch c b⟩
abbrev TR:List Nat:=[1,5,6,10,11,12,13,14,15,16,17,18,19,20,21,24,30,31,32,33,40,41,50,51,52,53,54,55,60,70,71,72,73,80,81,82,83,84,85,86,87,88,89,90,91,92,93,94,95]
theorem gw.uX{w:am}{g:Tg}{i b:Nat}{K:dw}{P:jx}{E:fm}{d:List Nat}(h:gw w g i b K P E d):∃a n m f,nE w g b a [] n m f:=by
 obtain⟨R,p,q,k⟩:=h.ex
 obtain⟨s,e,t,a,n,m,f,o,r,c,l,-,-,-,-,j⟩:=k.log.ex
 exact⟨a,n,m,f,j.dk⟩
section
variable{w w':am}{g g':Tg}{K:dw}{S:jR}{P:eG}{picks:List Int}{base:Int}{Sx:Option Nat->iw->Prop}{N B:Nat}
theorem NI(H:uv w qI K S P picks base)(i:¬((∀z∈picks,0<=z)/\mv K S.lr S.al base)):
 aw ax 16 #[.agg (Cl K S base)] w λe w'=>e=aF (.tuple #[aA ae,ay az 1])/\Below w.heap.size w w':=by
 have a:=aH (show ∀y,Below w.heap.size w y->aw ax 26 #[.agg (Cl K S base)] y λe w'=>e=aF (aC ah)/\Below y.heap.size y w' from λy D=>(Z9 (H.low D)).mono λe w' ⟨⟨b,x,A,C⟩⟩=>by
  cases b with
  | true=>exact absurd (A.1 rfl) i
  | false=>exact⟨x,C⟩)
 obtain⟨I,J,f,-⟩:=H.ask.ex
 obtain⟨G,pc,p,-⟩:=H.Cm.ex
 unfold Cl at a ⊢
 rw[H.fv,H.nv,f,p]at a ⊢
 obtain⟨n,k⟩:=bP P.length
 obtain⟨m,j⟩:=bP picks.length
 obtain⟨t,h⟩:=bP S.uX
 obtain⟨sm,q⟩:=bP S.sm
 obtain⟨F,l⟩:=bP S.most
 obtain⟨E,o⟩:=bP S.lr
 obtain⟨r,d⟩:=bP S.al
 rw[k,j,h,q,l,o,d]at a ⊢
 clear f p H i k j h q l o d
 obtain⟨L,M,c,s⟩:=bG w #[ay az t,ay az sm,ay az base,ay az K.cap,ay az K.dO,ay az K.most,ay az K.fj,aD aE E,aD aE r,aB ae 0 0,aB I n J,aB G m pc,ay az F,aB ae 0 0] 34
 have O:=qV s.out
 go_in
 go_wp2_with fail
 refine(a.out L c.out).mono ?_
 rintro e Q ⟨rfl,u⟩
 go_wp2_with fail
 go_ret2
 exact⟨rfl,c.out.trans (u.mono c.out.size)⟩
theorem Xc(H:uv w qI K S P picks base)(k:¬((∀z∈picks,0<=z)/\mv K S.lr S.al base)):
 aw ax 10 #[.agg (Cl K S base)] w λe w'=>e=aF (.tuple #[.agg #[ay az 0,aB ae 0 0,aB ae 0 0,ay az 0,ay az 0,ay az 0,ay az 0,ay az 0,ay az 0,ay az 0,ay az 0,aD aE 0,aC ah,aC ah,aC ah,ay az 0,ay az 0,ay az 0,ay az 0,ay az 0,ay az 0,ay az 0,ay az 0,ay az 0,ay az 0,aB ae 0 0],ay az 1])/\Below w.heap.size w w':=by
 have a:=aH (show ∀y,Below w.heap.size w y->aw ax 16 #[.agg (Cl K S base)] y λe w'=>e=aF (.tuple #[aA ae,ay az 1])/\Below y.heap.size y w' from λy I=>NI (H.low I) k)
 obtain⟨Q,T,i,-⟩:=H.ask.ex
 obtain⟨O,pc,C,-⟩:=H.Cm.ex
 unfold Cl at a ⊢
 rw[H.fv,H.nv,i,C]at a ⊢
 obtain⟨n,s⟩:=bP P.length
 obtain⟨m,r⟩:=bP picks.length
 obtain⟨G,j⟩:=bP S.uX
 obtain⟨sm,D⟩:=bP S.sm
 obtain⟨M,x⟩:=bP S.most
 obtain⟨L,A⟩:=bP S.lr
 obtain⟨F,f⟩:=bP S.al
 rw[s,r,j,D,x,A,f]at a ⊢
 clear i C H k s r j D x A f
 obtain⟨d,V,p,q⟩:=bG w #[ay az G,ay az sm,ay az base,ay az K.cap,ay az K.dO,ay az K.most,ay az K.fj,aD aE L,aD aE F,aB ae 0 0,aB Q n T,aB O m pc,ay az M,aB ae 0 0] 34
 obtain⟨U,W,u,t⟩:=bG d #[ay az 0,aB ae 0 0,aB ae 0 0,ay az 0,ay az 0,ay az 0,ay az 0,ay az 0,ay az 0,ay az 0,ay az 0,aD aE 0,aC ah,aC ah,aC ah,ay az 0,ay az 0,ay az 0,ay az 0,ay az 0,ay az 0,ay az 0,ay az 0,ay az 0,ay az 0,aB ae 0 0] 45
 have b:=aH (aM p.out u.out)
 go_in
 have J:=qV ((u.out.block _ (aT q.out)).trans q.out)
 go_wp2_with fail
 refine(a.out U b.out).mono ?_
 rintro e X ⟨rfl,c⟩
 have l:=aH ((c.block _ (aT t.out)).trans t.out)
 have E:=aH (b.out.trans (c.mono b.out.size))
 clear c J
 go_wp2_with (refine kF (o:=⟨ae,.store 45 (.tmp 2) (.tmp 15),_,_,_,_⟩) rfl _ _ _ rfl d.heap.size #[ay az 0,aB ae 0 0,aB ae 0 0,ay az 0,ay az 0,ay az 0,ay az 0,ay az 0,ay az 0,ay az 0,ay az 0,aD aE 0,aC ah,aC ah,aC ah,ay az 0,ay az 0,ay az 0,ay az 0,ay az 0,ay az 0,ay az 0,ay az 0,ay az 0,ay az 0,aB ae 0 0] rfl rfl _ _ l.out (by kernel_rfl) rfl (by simp[Value.oneCell']) ?_)
 refine bn (tR rfl d.heap.size rfl (oQ _ _ _ _ _ _ l.out)) rfl ?_
 exact⟨rfl,((Ch.bh [] qI E.out).setRow _ (.inr p.out.size)).below dx (λ_ _ h=>by cases h)⟩
theorem KY(H:jq w qI K S P picks base)(Ep:∀z∈picks,0<=z)(qx:mv K S.lr S.al base)(o:nV K P Sx N)(h0:oM K P ae (iA (fJ nA) P))(hs:Sx ae (iA (fJ nA) P))(hp:sR K N (P.map List.length).sum (iA (fJ nA) P)<=B)(hB:B<9000)(hm:(B:Int)<S.most):
 aw ax 10 #[.agg (Cl K S base)] w λe w'=>∃(W:iw) (ua qa:Option Addr) (uc qc:Nat) (he su li ld ba c0 c1 c2 c3 c4 c5 c6 c7 c8:Int) (now:Nat) (g':Tg) (L:List uC),
  e=aF (.tuple #[.agg #[ay az 0,aB ua W.turns.length uc,aB qa W.cJ.length qc,ay az base,ay az (base+W.E.du),ay az (base+W.E.D.length),ay az he,ay az su,ay az li,ay az ld,ay az ba,aD aE now,aC ah,aC ah,aC ah,ay az 0,ay az c0,ay az c1,ay az c2,ay az c3,ay az c4,ay az c5,ay az c6,ay az c7,ay az c8,aB ae 0 0],ay az 0])/\MH w' g' W (aB ua W.turns.length uc) (aB qa W.cJ.length qc) L/\zr K P (picks.map Int.toNat) (iA (fJ nA) P) W/\ft K P W=[]/\oM K P ae W/\Sx ae W/\Ch TR qI w g' w':=by
 have HB:=aH (H.b qx.2.2)
 obtain⟨par,A8⟩:=qx.par (sm:=S.sm) H.kl HB.out H.b2 H.sm.1
 have Nx:=aH (show ∀y gy,Ch [] qI w gy y->(∀q,y.heap.size<=q->gy q=0)->aw ax 16 #[.agg (Cl K S base)] y λe w'=>∃g' R,e=aF (.tuple #[aA (ag ⟨R.sb,0,ae⟩),ay az 0])/\Ch TB gy y g' w'/\mu w' g' K S P picks (iA (fJ nA) P) R []from λy gy c hz=>NH (H.pW c) hz Ep qx)
 obtain⟨ta,tc,Bj,-⟩:=H.ask.ex
 obtain⟨pa,pc,uV,-⟩:=H.Cm.ex
 have HH:=aH H
 have KM:=aH (And.intro o (And.intro par (And.intro A8 (And.intro Ep (And.intro h0 (And.intro hs (And.intro hp (And.intro hB hm))))))))
 unfold Cl at Nx ⊢
 rw[H.fv,H.nv,Bj,uV]at Nx ⊢
 obtain⟨n,hn⟩:=bP P.length
 obtain⟨m,hm'⟩:=bP picks.length
 obtain⟨dk,Et⟩:=bP S.uX
 obtain⟨sm,uy⟩:=bP S.sm
 obtain⟨mo,oB⟩:=bP S.most
 obtain⟨lr,qq⟩:=bP S.lr
 obtain⟨al,Ae⟩:=bP S.al
 have STE:=aH (show ∀(d e:Nat) (pl tv pv:ar) (z:Int),IW K S d e pl tv pv z=#[ay az dk,ay az sm,ay az base,ay az K.cap,ay az K.dO,ay az K.most,ay az K.fj,aD aE lr,aD aE al,aB ae 0 0,aB ta n tc,aB pa m pc,ay az mo,aB ae 0 0,aA (ag ⟨d,0,ae⟩),aA (ag ⟨e,0,ae⟩),pl,ay az z,ay az 0,tv,pv,ay az 0,ay az 0,ay az 0,ay az 0,ay az 0,ay az 0,ay az 0,ay az 0,aD aE 0,aC ah,aC ah,aC ah,ay az 0,ay az 0,ay az 0,ay az 0,ay az 0,ay az 0,ay az 0,ay az 0,ay az 0,ay az 0,aB ae 0 0]from λd e pl tv pv z=>by
  unfold IW
  rw[H.fv,H.nv,Bj,uV,hn,hm',Et,uy,oB,qq,Ae,HB.out])
 rw[hn,hm',Et,uy,oB,qq,Ae]at Nx ⊢
 clear Bj uV H Ep qx hn hm' Et uy oB qq Ae o par A8 h0 hs hp hB hm
 obtain⟨b0,QS⟩:=bP w.heap.size
 obtain⟨w1,gv,dJ,dL⟩:=bG w #[ay az dk,ay az sm,ay az base,ay az K.cap,ay az K.dO,ay az K.most,ay az K.fj,aD aE lr,aD aE al,aB ae 0 0,aB ta n tc,aB pa m pc,ay az mo,aB ae 0 0] 34
 have j9:=qV dL.out
 rw[QS]at dL j9
 obtain⟨w2,lU,lZ,kG⟩:=bG w1 #[ay az 0,aB ae 0 0,aB ae 0 0,ay az 0,ay az 0,ay az 0,ay az 0,ay az 0,ay az 0,ay az 0,ay az 0,aD aE 0,aC ah,aC ah,aC ah,ay az 0,ay az 0,ay az 0,ay az 0,ay az 0,ay az 0,ay az 0,ay az 0,ay az 0,ay az 0,aB ae 0 0] 45
 have QK:=sG kG.out
 obtain⟨rb,hrb⟩:=bP w1.heap.size
 rw[hrb]at kG QK
 have B2:=aH (aM dJ.out lZ.out)
 obtain⟨gz,JH⟩:=bP (tg qI rb 99)
 have CZ:=aH (show Ch [] qI w gz w2 from by rw[<-JH];exact(Ch.bh [] qI B2.out).tg (by rw[<-hrb];exact dJ.out.size))
 have C2:=aH (CZ.out.any (T:=TR))
 have Z2:=aH (show ∀q,w2.heap.size<=q->gz q=0 from λq hq=>by rw[<-JH,dA (by have:=aT kG.out;omega)];rfl)
 have R1:=aH (show Row w2 gz 0 b0 _ _ from⟨(lZ.out.block _ (aT dL.out)).trans dL.out,by rw[<-JH,dA (by have:=aT dL.out;omega)];rfl⟩)
 have R2:=aH (show Row w2 gz 99 rb _ _ from⟨kG.out,by rw[<-JH];exact dG _ _ _⟩)
 have eM:=aH (show ∀y g' T,Ch T gz w2 g' y->0∉T->y.cell? ⟨b0,0,ae⟩=ag (ay az dk)/\y.cell? ⟨b0,1,ae⟩=ag (ay az sm)/\y.cell? ⟨b0,2,ae⟩=ag (ay az base)/\y.cell? ⟨b0,3,ae⟩=ag (ay az K.cap)/\y.cell? ⟨b0,4,ae⟩=ag (ay az K.dO)/\y.cell? ⟨b0,5,ae⟩=ag (ay az K.most)/\y.cell? ⟨b0,6,ae⟩=ag (ay az K.fj)/\y.cell? ⟨b0,7,ae⟩=ag (aD aE lr)/\y.cell? ⟨b0,8,ae⟩=ag (aD aE al)/\y.cell? ⟨b0,9,ae⟩=ag (aB ae 0 0)/\y.cell? ⟨b0,10,ae⟩=ag (aB ta n tc)/\y.cell? ⟨b0,11,ae⟩=ag (aB pa m pc)/\y.cell? ⟨b0,12,ae⟩=ag (ay az mo)/\y.cell? ⟨b0,13,ae⟩=ag (aB ae 0 0)from λy g' T c h0=>by
  have k:=qV (R1.out.ch c h0).row
  exact⟨k.2.1,k.2.2.1,k.2.2.2.1,k.2.2.2.2.1,k.2.2.2.2.2.1,k.2.2.2.2.2.2.1,k.2.2.2.2.2.2.2.1,k.2.2.2.2.2.2.2.2.1,k.2.2.2.2.2.2.2.2.2.1,k.2.2.2.2.2.2.2.2.2.2.1,k.2.2.2.2.2.2.2.2.2.2.2.1,k.2.2.2.2.2.2.2.2.2.2.2.2.1,k.2.2.2.2.2.2.2.2.2.2.2.2.2.1,k.2.2.2.2.2.2.2.2.2.2.2.2.2.2.1⟩)
 have LEB:=aH (show w.heap.size<=rb from by rw[<-hrb];exact dJ.out.size)
 clear QK j9
 have k2:=eM.out w2 gz [] (Ch.refl _ _ _) (by simp)
 go_in
 go_wp2_with fail
 clear hrb
 refine(Nx.out w2 gz CZ.out Z2.out).mono ?_
 rintro e w3 ⟨g3,R,rfl,c3,h3⟩
 obtain⟨sb,js⟩:=bP R.sb
 have C3:=aH (c3.mono (T':=TR) (by decide))
 have aaY:=aH (WZ (B:=B) KM.out.1 KM.out.2.1 KM.out.2.2.1 KM.out.2.2.2.1 (by have:=HH.out.pk;omega) h3 KM.out.2.2.2.2.1 KM.out.2.2.2.2.2.1 rfl (by show fV 0<=0;decide) dx KM.out.2.2.2.2.2.2.1 KM.out.2.2.2.2.2.2.2.1 KM.out.2.2.2.2.2.2.2.2)
 rw[js]at aaY ⊢
 clear c3 k2
 go_wp2_with fail
 refine aaY.out.mono ?_
 rintro e w4 ⟨rfl,W,TI,uQ⟩
 obtain⟨g4,R4,L4,h4,c4,q1,q2,q3,q4⟩:=TI.ex
 have sb4:R4.sb=sb:=q1.trans js
 obtain⟨eb,oC⟩:=bP R4.eb
 obtain⟨db,Pg⟩:=bP R4.db
 have C4:=aH (C3.out.trans (c4.mono (by decide)))
 have H4:=aH h4
 have TI4:=aH (And.intro TI.tu (And.intro uQ (And.intro TI.ok TI.sx)))
 obtain⟨mo',dn,dm,df,dk4⟩:=h4.GM.uX
 rw[Pg]at dk4
 have DK:=aH dk4
 obtain⟨ua,uc,WI,-⟩:=h4.Xh.own.shape
 obtain⟨qa,qc,epa,-⟩:=h4.Jg.own.shape
 rw[bZ]at WI
 rw[h4.Ei]at epa
 obtain⟨tn,tY⟩:=bP W.turns.length
 obtain⟨pn,JD⟩:=bP W.cJ.length
 rw[tY]at WI
 rw[JD]at epa
 obtain⟨pl,wO⟩:=bP R4.Eh
 obtain⟨la,Ud⟩:=bP W.last
 have S4:=aH (show Row w4 g4 70 sb #[ay az dk,ay az sm,ay az base,ay az K.cap,ay az K.dO,ay az K.most,ay az K.fj,aD aE lr,aD aE al,aB ae 0 0,aB ta n tc,aB pa m pc,ay az mo,aB ae 0 0,aA (ag ⟨db,0,ae⟩),aA (ag ⟨eb,0,ae⟩),pl,ay az la,ay az 0,aB ua tn uc,aB qa pn qc,ay az 0,ay az 0,ay az 0,ay az 0,ay az 0,ay az 0,ay az 0,ay az 0,aD aE 0,aC ah,aC ah,aC ah,ay az 0,ay az 0,ay az 0,ay az 0,ay az 0,ay az 0,ay az 0,ay az 0,ay az 0,ay az 0,aB ae 0 0] 85 from by
  have e:=h4.row
  rw[sb4,Pg,oC,wO,WI,epa,Ud,STE.out]at e
  exact e)
 have NT:=aH (And.intro tY JD)
 obtain⟨fi,hfi⟩:=bP ((K.b0:Int):Int)
 obtain⟨du,yH⟩:=bP (((K.b0+W.E.du:Nat):Int):Int)
 obtain⟨rs,zM⟩:=bP (((K.b0+W.E.D.length:Nat):Int):Int)
 obtain⟨he,hhe⟩:=bP (((W.E.held.length:Nat):Int):Int)
 obtain⟨su,hsu⟩:=bP (eR W.E.held:Int)
 obtain⟨li,pE⟩:=bP (((W.E.line.length:Nat):Int):Int)
 obtain⟨ld,hld⟩:=bP (ldI W.E.cW:Int)
 obtain⟨ba,WF⟩:=bP (((W.E.cT:Nat):Int):Int)
 obtain⟨now,ag4⟩:=bP W.E.now
 have LV:=aH (show yi K W.E=.agg #[ay az fi,ay az du,ay az rs,ay az he,ay az su,ay az li,ay az ld,ay az ba,aD aE now,aC ah,aC ah,aC ah,ay az 0]from by unfold yi r9;rw[hfi,yH,zM,hhe,hsu,pE,hld,WF,ag4])
 have jS:=aH (show ∀y,Below w4.heap.size w4 y->aw ax 18 #[aA (ag ⟨eb,0,ae⟩)] y λe w'=>e=aF (.agg #[ay az fi,ay az du,ay az rs,ay az he,ay az su,ay az li,ay az ld,ay az ba,aD aE now,aC ah,aC ah,aC ah,ay az 0])/\Below y.heap.size y w' from λy hy=>by
  have e:=UF R4.eb R4.db W.E R4.cb y g4 (H4.out.low hy).GM TI4.out.2.2.1.en
  rw[LV.out,oC]at e
  exact e)
 have FD:=aH (And.intro hfi (And.intro yH zM))
 have EPA:=aH epa
 clear h4 c4 q1 q2 q3 q4 TI WI epa wO Ud tY JD hfi yH zM hhe hsu pE hld WF ag4 oC Pg dk4 sb4 uQ
 have s15:w4.cell? ⟨sb,15,ae⟩=ag (aA (ag ⟨eb,0,ae⟩)):=S4.out.cell 15
 have s14:w4.cell? ⟨sb,14,ae⟩=ag (aA (ag ⟨db,0,ae⟩)):=S4.out.cell 14
 go_wp2_with fail
 have qR:∀p:In (λw'=>w'.cell? ⟨sb,15,ae⟩=ag (aA (ag ⟨eb,0,ae⟩))/\w'.cell? ⟨sb,14,ae⟩=ag (aA (ag ⟨db,0,ae⟩))),p.w.cell? ⟨sb,15,ae⟩=ag (aA (ag ⟨eb,0,ae⟩))/\p.w.cell? ⟨sb,14,ae⟩=ag (aA (ag ⟨db,0,ae⟩)):=λp=>p.h
 refine bX [0,1,2,3,4,5,7,8,9,10,6,11,12,13,14,15,16,17,18,19] (λw'=>w'.cell? ⟨sb,15,ae⟩=ag (aA (ag ⟨eb,0,ae⟩))/\w'.cell? ⟨sb,14,ae⟩=ag (aA (ag ⟨db,0,ae⟩))) (by kernel_rfl) (by kernel_rfl) (by intro c a d v w h;cases d <;> exact h) ⟨s15,s14⟩ ?_
 intro dF
 simp only[pick,aV,a8,aQ,aR]
 refine aX 10 (by kernel_rfl) ?_
 simp only[aJ,aO,aI,aL]
 repeat (go_big_quiet_step (fail))
 refine aU ?_
 refine aS rfl ?_ rfl
 go_wp2_with fail
 refine(jS.out w4.drew (bi w4)).mono ?_
 rintro e w5 ⟨rfl,b5⟩
 have B5:=aH (aM (bi w4) b5)
 have D5:=aH (DK.out.ch (Ch.bh [] g4 B5.out) (by simp))
 have S5:=aH (S4.out.ch (Ch.bh [] g4 B5.out) (by simp))
 clear b5
 go_wp2_with fail
 refine⟨⟨⟨_,⟨S5.out.cell 15,S5.out.cell 14⟩⟩,rfl⟩,?_⟩
 refine aS rfl ?_ rfl
 go_wp2_with fail
 refine(JV db dn dm mo' [] df w5 g4 D5.out).mono ?_
 rintro e w6 ⟨c0,c1,c2,c3,c4,c5,c6,c7,c8,rfl,b6⟩
 have B6:=aH (aM B5.out b6)
 have S6:=aH (show Row w6 g4 70 sb #[ay az dk,ay az sm,ay az base,ay az K.cap,ay az K.dO,ay az K.most,ay az K.fj,aD aE lr,aD aE al,aB ae 0 0,aB ta n tc,aB pa m pc,ay az mo,aB ae 0 0,aA (ag ⟨db,0,ae⟩),aA (ag ⟨eb,0,ae⟩),pl,ay az la,ay az 0,aB ua tn uc,aB qa pn qc,ay az 0,ay az 0,ay az 0,ay az 0,ay az 0,ay az 0,ay az 0,ay az 0,aD aE 0,aC ah,aC ah,aC ah,ay az 0,ay az 0,ay az 0,ay az 0,ay az 0,ay az 0,ay az 0,ay az 0,ay az 0,ay az 0,aB ae 0 0] 85 from S5.out.ch (Ch.bh [] g4 b6) (by simp))
 clear b6
 go_wp2_with fail
 refine⟨⟨⟨_,⟨S6.out.cell 15,S6.out.cell 14⟩⟩,rfl⟩,?_⟩
 refine aX 3 (by kernel_rfl) ?_
 simp only[aJ,aO,aI,aL]
 repeat (go_big_quiet_step (fail))
 refine aU ?_
 obtain⟨x0,hx0⟩:=bP (w6.setCell ⟨sb,21,ae⟩ (ay az fi))
 have aox:=aH (show Row x0 g4 70 sb #[ay az dk,ay az sm,ay az base,ay az K.cap,ay az K.dO,ay az K.most,ay az K.fj,aD aE lr,aD aE al,aB ae 0 0,aB ta n tc,aB pa m pc,ay az mo,aB ae 0 0,aA (ag ⟨db,0,ae⟩),aA (ag ⟨eb,0,ae⟩),pl,ay az la,ay az 0,aB ua tn uc,aB qa pn qc,ay az fi,ay az 0,ay az 0,ay az 0,ay az 0,ay az 0,ay az 0,ay az 0,aD aE 0,aC ah,aC ah,aC ah,ay az 0,ay az 0,ay az 0,ay az 0,ay az 0,ay az 0,ay az 0,ay az 0,ay az 0,ay az 0,aB ae 0 0] 85 from by rw[<-hx0];exact S6.out.set 21 (ay az fi))
 obtain⟨x1,Ir⟩:=bP (x0.setCell ⟨sb,22,ae⟩ (ay az du))
 have aow:=aH (show Row x1 g4 70 sb #[ay az dk,ay az sm,ay az base,ay az K.cap,ay az K.dO,ay az K.most,ay az K.fj,aD aE lr,aD aE al,aB ae 0 0,aB ta n tc,aB pa m pc,ay az mo,aB ae 0 0,aA (ag ⟨db,0,ae⟩),aA (ag ⟨eb,0,ae⟩),pl,ay az la,ay az 0,aB ua tn uc,aB qa pn qc,ay az fi,ay az du,ay az 0,ay az 0,ay az 0,ay az 0,ay az 0,ay az 0,aD aE 0,aC ah,aC ah,aC ah,ay az 0,ay az 0,ay az 0,ay az 0,ay az 0,ay az 0,ay az 0,ay az 0,ay az 0,ay az 0,aB ae 0 0] 85 from by rw[<-Ir];exact aox.out.set 22 (ay az du))
 obtain⟨x2,CL⟩:=bP (x1.setCell ⟨sb,23,ae⟩ (ay az rs))
 have aov:=aH (show Row x2 g4 70 sb #[ay az dk,ay az sm,ay az base,ay az K.cap,ay az K.dO,ay az K.most,ay az K.fj,aD aE lr,aD aE al,aB ae 0 0,aB ta n tc,aB pa m pc,ay az mo,aB ae 0 0,aA (ag ⟨db,0,ae⟩),aA (ag ⟨eb,0,ae⟩),pl,ay az la,ay az 0,aB ua tn uc,aB qa pn qc,ay az fi,ay az du,ay az rs,ay az 0,ay az 0,ay az 0,ay az 0,ay az 0,aD aE 0,aC ah,aC ah,aC ah,ay az 0,ay az 0,ay az 0,ay az 0,ay az 0,ay az 0,ay az 0,ay az 0,ay az 0,ay az 0,aB ae 0 0] 85 from by rw[<-CL];exact aow.out.set 23 (ay az rs))
 obtain⟨x3,En⟩:=bP (x2.setCell ⟨sb,24,ae⟩ (ay az he))
 have aou:=aH (show Row x3 g4 70 sb #[ay az dk,ay az sm,ay az base,ay az K.cap,ay az K.dO,ay az K.most,ay az K.fj,aD aE lr,aD aE al,aB ae 0 0,aB ta n tc,aB pa m pc,ay az mo,aB ae 0 0,aA (ag ⟨db,0,ae⟩),aA (ag ⟨eb,0,ae⟩),pl,ay az la,ay az 0,aB ua tn uc,aB qa pn qc,ay az fi,ay az du,ay az rs,ay az he,ay az 0,ay az 0,ay az 0,ay az 0,aD aE 0,aC ah,aC ah,aC ah,ay az 0,ay az 0,ay az 0,ay az 0,ay az 0,ay az 0,ay az 0,ay az 0,ay az 0,ay az 0,aB ae 0 0] 85 from by rw[<-En];exact aov.out.set 24 (ay az he))
 obtain⟨x4,LU⟩:=bP (x3.setCell ⟨sb,25,ae⟩ (ay az su))
 have aot:=aH (show Row x4 g4 70 sb #[ay az dk,ay az sm,ay az base,ay az K.cap,ay az K.dO,ay az K.most,ay az K.fj,aD aE lr,aD aE al,aB ae 0 0,aB ta n tc,aB pa m pc,ay az mo,aB ae 0 0,aA (ag ⟨db,0,ae⟩),aA (ag ⟨eb,0,ae⟩),pl,ay az la,ay az 0,aB ua tn uc,aB qa pn qc,ay az fi,ay az du,ay az rs,ay az he,ay az su,ay az 0,ay az 0,ay az 0,aD aE 0,aC ah,aC ah,aC ah,ay az 0,ay az 0,ay az 0,ay az 0,ay az 0,ay az 0,ay az 0,ay az 0,ay az 0,ay az 0,aB ae 0 0] 85 from by rw[<-LU];exact aou.out.set 25 (ay az su))
 obtain⟨x5,yy⟩:=bP (x4.setCell ⟨sb,26,ae⟩ (ay az li))
 have aos:=aH (show Row x5 g4 70 sb #[ay az dk,ay az sm,ay az base,ay az K.cap,ay az K.dO,ay az K.most,ay az K.fj,aD aE lr,aD aE al,aB ae 0 0,aB ta n tc,aB pa m pc,ay az mo,aB ae 0 0,aA (ag ⟨db,0,ae⟩),aA (ag ⟨eb,0,ae⟩),pl,ay az la,ay az 0,aB ua tn uc,aB qa pn qc,ay az fi,ay az du,ay az rs,ay az he,ay az su,ay az li,ay az 0,ay az 0,aD aE 0,aC ah,aC ah,aC ah,ay az 0,ay az 0,ay az 0,ay az 0,ay az 0,ay az 0,ay az 0,ay az 0,ay az 0,ay az 0,aB ae 0 0] 85 from by rw[<-yy];exact aot.out.set 26 (ay az li))
 obtain⟨x6,hx6⟩:=bP (x5.setCell ⟨sb,27,ae⟩ (ay az ld))
 have aor:=aH (show Row x6 g4 70 sb #[ay az dk,ay az sm,ay az base,ay az K.cap,ay az K.dO,ay az K.most,ay az K.fj,aD aE lr,aD aE al,aB ae 0 0,aB ta n tc,aB pa m pc,ay az mo,aB ae 0 0,aA (ag ⟨db,0,ae⟩),aA (ag ⟨eb,0,ae⟩),pl,ay az la,ay az 0,aB ua tn uc,aB qa pn qc,ay az fi,ay az du,ay az rs,ay az he,ay az su,ay az li,ay az ld,ay az 0,aD aE 0,aC ah,aC ah,aC ah,ay az 0,ay az 0,ay az 0,ay az 0,ay az 0,ay az 0,ay az 0,ay az 0,ay az 0,ay az 0,aB ae 0 0] 85 from by rw[<-hx6];exact aos.out.set 27 (ay az ld))
 obtain⟨x7,A'⟩:=bP (x6.setCell ⟨sb,28,ae⟩ (ay az ba))
 have aoq:=aH (show Row x7 g4 70 sb #[ay az dk,ay az sm,ay az base,ay az K.cap,ay az K.dO,ay az K.most,ay az K.fj,aD aE lr,aD aE al,aB ae 0 0,aB ta n tc,aB pa m pc,ay az mo,aB ae 0 0,aA (ag ⟨db,0,ae⟩),aA (ag ⟨eb,0,ae⟩),pl,ay az la,ay az 0,aB ua tn uc,aB qa pn qc,ay az fi,ay az du,ay az rs,ay az he,ay az su,ay az li,ay az ld,ay az ba,aD aE 0,aC ah,aC ah,aC ah,ay az 0,ay az 0,ay az 0,ay az 0,ay az 0,ay az 0,ay az 0,ay az 0,ay az 0,ay az 0,aB ae 0 0] 85 from by rw[<-A'];exact aor.out.set 28 (ay az ba))
 obtain⟨x8,hx8⟩:=bP (x7.setCell ⟨sb,29,ae⟩ (aD aE now))
 have aop:=aH (show Row x8 g4 70 sb #[ay az dk,ay az sm,ay az base,ay az K.cap,ay az K.dO,ay az K.most,ay az K.fj,aD aE lr,aD aE al,aB ae 0 0,aB ta n tc,aB pa m pc,ay az mo,aB ae 0 0,aA (ag ⟨db,0,ae⟩),aA (ag ⟨eb,0,ae⟩),pl,ay az la,ay az 0,aB ua tn uc,aB qa pn qc,ay az fi,ay az du,ay az rs,ay az he,ay az su,ay az li,ay az ld,ay az ba,aD aE now,aC ah,aC ah,aC ah,ay az 0,ay az 0,ay az 0,ay az 0,ay az 0,ay az 0,ay az 0,ay az 0,ay az 0,ay az 0,aB ae 0 0] 85 from by rw[<-hx8];exact aoq.out.set 29 (aD aE now))
 obtain⟨x9,hx9⟩:=bP (x8.setCell ⟨sb,30,ae⟩ (aC ah))
 have aoo:=aH (show Row x9 g4 70 sb #[ay az dk,ay az sm,ay az base,ay az K.cap,ay az K.dO,ay az K.most,ay az K.fj,aD aE lr,aD aE al,aB ae 0 0,aB ta n tc,aB pa m pc,ay az mo,aB ae 0 0,aA (ag ⟨db,0,ae⟩),aA (ag ⟨eb,0,ae⟩),pl,ay az la,ay az 0,aB ua tn uc,aB qa pn qc,ay az fi,ay az du,ay az rs,ay az he,ay az su,ay az li,ay az ld,ay az ba,aD aE now,aC ah,aC ah,aC ah,ay az 0,ay az 0,ay az 0,ay az 0,ay az 0,ay az 0,ay az 0,ay az 0,ay az 0,ay az 0,aB ae 0 0] 85 from by rw[<-hx9];exact aop.out.set 30 (aC ah))
 obtain⟨Rg,acJ⟩:=bP (x9.setCell ⟨sb,31,ae⟩ (aC ah))
 have aiv:=aH (show Row Rg g4 70 sb #[ay az dk,ay az sm,ay az base,ay az K.cap,ay az K.dO,ay az K.most,ay az K.fj,aD aE lr,aD aE al,aB ae 0 0,aB ta n tc,aB pa m pc,ay az mo,aB ae 0 0,aA (ag ⟨db,0,ae⟩),aA (ag ⟨eb,0,ae⟩),pl,ay az la,ay az 0,aB ua tn uc,aB qa pn qc,ay az fi,ay az du,ay az rs,ay az he,ay az su,ay az li,ay az ld,ay az ba,aD aE now,aC ah,aC ah,aC ah,ay az 0,ay az 0,ay az 0,ay az 0,ay az 0,ay az 0,ay az 0,ay az 0,ay az 0,ay az 0,aB ae 0 0] 85 from by rw[<-acJ];exact aoo.out.set 31 (aC ah))
 obtain⟨EG,wM⟩:=bP (Rg.setCell ⟨sb,32,ae⟩ (aC ah))
 have aiu:=aH (show Row EG g4 70 sb #[ay az dk,ay az sm,ay az base,ay az K.cap,ay az K.dO,ay az K.most,ay az K.fj,aD aE lr,aD aE al,aB ae 0 0,aB ta n tc,aB pa m pc,ay az mo,aB ae 0 0,aA (ag ⟨db,0,ae⟩),aA (ag ⟨eb,0,ae⟩),pl,ay az la,ay az 0,aB ua tn uc,aB qa pn qc,ay az fi,ay az du,ay az rs,ay az he,ay az su,ay az li,ay az ld,ay az ba,aD aE now,aC ah,aC ah,aC ah,ay az 0,ay az 0,ay az 0,ay az 0,ay az 0,ay az 0,ay az 0,ay az 0,ay az 0,ay az 0,aB ae 0 0] 85 from by rw[<-wM];exact aiv.out.set 32 (aC ah))
 obtain⟨Wo,acI⟩:=bP (EG.setCell ⟨sb,33,ae⟩ (ay az 0))
 have MK:=aH (show Row Wo g4 70 sb #[ay az dk,ay az sm,ay az base,ay az K.cap,ay az K.dO,ay az K.most,ay az K.fj,aD aE lr,aD aE al,aB ae 0 0,aB ta n tc,aB pa m pc,ay az mo,aB ae 0 0,aA (ag ⟨db,0,ae⟩),aA (ag ⟨eb,0,ae⟩),pl,ay az la,ay az 0,aB ua tn uc,aB qa pn qc,ay az fi,ay az du,ay az rs,ay az he,ay az su,ay az li,ay az ld,ay az ba,aD aE now,aC ah,aC ah,aC ah,ay az 0,ay az 0,ay az 0,ay az 0,ay az 0,ay az 0,ay az 0,ay az 0,ay az 0,ay az 0,aB ae 0 0] 85 from by rw[<-acI];exact aiu.out.set 33 (ay az 0))
 refine aS rfl ?_ rfl
 refine wpList_store_mid (op:=⟨ae,.store 40 _ _,_,_,_,_⟩) rfl _ _ _ rfl sb 21 #[ay az fi,ay az du,ay az rs,ay az he,ay az su,ay az li,ay az ld,ay az ba,aD aE now,aC ah,aC ah,aC ah,ay az 0] rfl rfl (S6.out.there 21 13 (by show 34<=44;decide)) (by kernel_rfl) (by simp[Value.oneCell']) ?_
 rw[show w6.setCells sb 21 [ay az fi,ay az du,ay az rs,ay az he,ay az su,ay az li,ay az ld,ay az ba,aD aE now,aC ah,aC ah,aC ah,ay az 0]=Wo from by rw[<-acI,<-wM,<-acJ,<-hx9,<-hx8,<-A',<-hx6,<-yy,<-LU,<-En,<-CL,<-Ir,<-hx0];rfl]
 go_wp2_with fail
 refine⟨⟨⟨_,⟨MK.out.cell 15,MK.out.cell 14⟩⟩,rfl⟩,?_⟩
 refine aX 3 (by kernel_rfl) ?_
 simp only[aJ,aO,aI,aL]
 repeat (go_big_quiet_step (fail))
 refine aU ?_
 obtain⟨ZY,acH⟩:=bP (Wo.setCell ⟨sb,34,ae⟩ (ay az c0))
 have ait:=aH (show Row ZY g4 70 sb #[ay az dk,ay az sm,ay az base,ay az K.cap,ay az K.dO,ay az K.most,ay az K.fj,aD aE lr,aD aE al,aB ae 0 0,aB ta n tc,aB pa m pc,ay az mo,aB ae 0 0,aA (ag ⟨db,0,ae⟩),aA (ag ⟨eb,0,ae⟩),pl,ay az la,ay az 0,aB ua tn uc,aB qa pn qc,ay az fi,ay az du,ay az rs,ay az he,ay az su,ay az li,ay az ld,ay az ba,aD aE now,aC ah,aC ah,aC ah,ay az 0,ay az c0,ay az 0,ay az 0,ay az 0,ay az 0,ay az 0,ay az 0,ay az 0,ay az 0,aB ae 0 0] 85 from by rw[<-acH];exact MK.out.set 34 (ay az c0))
 obtain⟨ZW,acG⟩:=bP (ZY.setCell ⟨sb,35,ae⟩ (ay az c1))
 have ais:=aH (show Row ZW g4 70 sb #[ay az dk,ay az sm,ay az base,ay az K.cap,ay az K.dO,ay az K.most,ay az K.fj,aD aE lr,aD aE al,aB ae 0 0,aB ta n tc,aB pa m pc,ay az mo,aB ae 0 0,aA (ag ⟨db,0,ae⟩),aA (ag ⟨eb,0,ae⟩),pl,ay az la,ay az 0,aB ua tn uc,aB qa pn qc,ay az fi,ay az du,ay az rs,ay az he,ay az su,ay az li,ay az ld,ay az ba,aD aE now,aC ah,aC ah,aC ah,ay az 0,ay az c0,ay az c1,ay az 0,ay az 0,ay az 0,ay az 0,ay az 0,ay az 0,ay az 0,aB ae 0 0] 85 from by rw[<-acG];exact ait.out.set 35 (ay az c1))
 obtain⟨Wn,acF⟩:=bP (ZW.setCell ⟨sb,36,ae⟩ (ay az c2))
 have air:=aH (show Row Wn g4 70 sb #[ay az dk,ay az sm,ay az base,ay az K.cap,ay az K.dO,ay az K.most,ay az K.fj,aD aE lr,aD aE al,aB ae 0 0,aB ta n tc,aB pa m pc,ay az mo,aB ae 0 0,aA (ag ⟨db,0,ae⟩),aA (ag ⟨eb,0,ae⟩),pl,ay az la,ay az 0,aB ua tn uc,aB qa pn qc,ay az fi,ay az du,ay az rs,ay az he,ay az su,ay az li,ay az ld,ay az ba,aD aE now,aC ah,aC ah,aC ah,ay az 0,ay az c0,ay az c1,ay az c2,ay az 0,ay az 0,ay az 0,ay az 0,ay az 0,ay az 0,aB ae 0 0] 85 from by rw[<-acF];exact ais.out.set 36 (ay az c2))
 obtain⟨ZV,acE⟩:=bP (Wn.setCell ⟨sb,37,ae⟩ (ay az c3))
 have aiq:=aH (show Row ZV g4 70 sb #[ay az dk,ay az sm,ay az base,ay az K.cap,ay az K.dO,ay az K.most,ay az K.fj,aD aE lr,aD aE al,aB ae 0 0,aB ta n tc,aB pa m pc,ay az mo,aB ae 0 0,aA (ag ⟨db,0,ae⟩),aA (ag ⟨eb,0,ae⟩),pl,ay az la,ay az 0,aB ua tn uc,aB qa pn qc,ay az fi,ay az du,ay az rs,ay az he,ay az su,ay az li,ay az ld,ay az ba,aD aE now,aC ah,aC ah,aC ah,ay az 0,ay az c0,ay az c1,ay az c2,ay az c3,ay az 0,ay az 0,ay az 0,ay az 0,ay az 0,aB ae 0 0] 85 from by rw[<-acE];exact air.out.set 37 (ay az c3))
 obtain⟨ZT,acD⟩:=bP (ZV.setCell ⟨sb,38,ae⟩ (ay az c4))
 have aip:=aH (show Row ZT g4 70 sb #[ay az dk,ay az sm,ay az base,ay az K.cap,ay az K.dO,ay az K.most,ay az K.fj,aD aE lr,aD aE al,aB ae 0 0,aB ta n tc,aB pa m pc,ay az mo,aB ae 0 0,aA (ag ⟨db,0,ae⟩),aA (ag ⟨eb,0,ae⟩),pl,ay az la,ay az 0,aB ua tn uc,aB qa pn qc,ay az fi,ay az du,ay az rs,ay az he,ay az su,ay az li,ay az ld,ay az ba,aD aE now,aC ah,aC ah,aC ah,ay az 0,ay az c0,ay az c1,ay az c2,ay az c3,ay az c4,ay az 0,ay az 0,ay az 0,ay az 0,aB ae 0 0] 85 from by rw[<-acD];exact aiq.out.set 38 (ay az c4))
 obtain⟨ZS,acC⟩:=bP (ZT.setCell ⟨sb,39,ae⟩ (ay az c5))
 have aio:=aH (show Row ZS g4 70 sb #[ay az dk,ay az sm,ay az base,ay az K.cap,ay az K.dO,ay az K.most,ay az K.fj,aD aE lr,aD aE al,aB ae 0 0,aB ta n tc,aB pa m pc,ay az mo,aB ae 0 0,aA (ag ⟨db,0,ae⟩),aA (ag ⟨eb,0,ae⟩),pl,ay az la,ay az 0,aB ua tn uc,aB qa pn qc,ay az fi,ay az du,ay az rs,ay az he,ay az su,ay az li,ay az ld,ay az ba,aD aE now,aC ah,aC ah,aC ah,ay az 0,ay az c0,ay az c1,ay az c2,ay az c3,ay az c4,ay az c5,ay az 0,ay az 0,ay az 0,aB ae 0 0] 85 from by rw[<-acC];exact aip.out.set 39 (ay az c5))
 obtain⟨ZR,acB⟩:=bP (ZS.setCell ⟨sb,40,ae⟩ (ay az c6))
 have ain:=aH (show Row ZR g4 70 sb #[ay az dk,ay az sm,ay az base,ay az K.cap,ay az K.dO,ay az K.most,ay az K.fj,aD aE lr,aD aE al,aB ae 0 0,aB ta n tc,aB pa m pc,ay az mo,aB ae 0 0,aA (ag ⟨db,0,ae⟩),aA (ag ⟨eb,0,ae⟩),pl,ay az la,ay az 0,aB ua tn uc,aB qa pn qc,ay az fi,ay az du,ay az rs,ay az he,ay az su,ay az li,ay az ld,ay az ba,aD aE now,aC ah,aC ah,aC ah,ay az 0,ay az c0,ay az c1,ay az c2,ay az c3,ay az c4,ay az c5,ay az c6,ay az 0,ay az 0,aB ae 0 0] 85 from by rw[<-acB];exact aio.out.set 40 (ay az c6))
 obtain⟨Rf,acA⟩:=bP (ZR.setCell ⟨sb,41,ae⟩ (ay az c7))
 have aim:=aH (show Row Rf g4 70 sb #[ay az dk,ay az sm,ay az base,ay az K.cap,ay az K.dO,ay az K.most,ay az K.fj,aD aE lr,aD aE al,aB ae 0 0,aB ta n tc,aB pa m pc,ay az mo,aB ae 0 0,aA (ag ⟨db,0,ae⟩),aA (ag ⟨eb,0,ae⟩),pl,ay az la,ay az 0,aB ua tn uc,aB qa pn qc,ay az fi,ay az du,ay az rs,ay az he,ay az su,ay az li,ay az ld,ay az ba,aD aE now,aC ah,aC ah,aC ah,ay az 0,ay az c0,ay az c1,ay az c2,ay az c3,ay az c4,ay az c5,ay az c6,ay az c7,ay az 0,aB ae 0 0] 85 from by rw[<-acA];exact ain.out.set 41 (ay az c7))
 obtain⟨Ip,acz⟩:=bP (Rf.setCell ⟨sb,42,ae⟩ (ay az c8))
 have Vm:=aH (show Row Ip g4 70 sb #[ay az dk,ay az sm,ay az base,ay az K.cap,ay az K.dO,ay az K.most,ay az K.fj,aD aE lr,aD aE al,aB ae 0 0,aB ta n tc,aB pa m pc,ay az mo,aB ae 0 0,aA (ag ⟨db,0,ae⟩),aA (ag ⟨eb,0,ae⟩),pl,ay az la,ay az 0,aB ua tn uc,aB qa pn qc,ay az fi,ay az du,ay az rs,ay az he,ay az su,ay az li,ay az ld,ay az ba,aD aE now,aC ah,aC ah,aC ah,ay az 0,ay az c0,ay az c1,ay az c2,ay az c3,ay az c4,ay az c5,ay az c6,ay az c7,ay az c8,aB ae 0 0] 85 from by rw[<-acz];exact aim.out.set 42 (ay az c8))
 have CS:Ch [70] g4 w6 g4 Ip:=by
  have t:g4 sb∈[70]\/w6.heap.size<=sb:=.inl (by rw[S6.out.tag];decide)
  rw[<-acz,<-acA,<-acB,<-acC,<-acD,<-acE,<-acF,<-acG,<-acH,<-acI,<-wM,<-acJ,<-hx9,<-hx8,<-A',<-hx6,<-yy,<-LU,<-En,<-CL,<-Ir,<-hx0]
  exact((((((((((((((((((((((Ch.refl [70] g4 w6).set _ t).set _ t).set _ t).set _ t).set _ t).set _ t).set _ t).set _ t).set _ t).set _ t).set _ t).set _ t).set _ t).set _ t).set _ t).set _ t).set _ t).set _ t).set _ t).set _ t).set _ t).set _ t
 refine aS rfl ?_ rfl
 refine wpList_store_mid (op:=⟨ae,.store 42 _ _,_,_,_,_⟩) rfl _ _ _ rfl sb 34 #[ay az c0,ay az c1,ay az c2,ay az c3,ay az c4,ay az c5,ay az c6,ay az c7,ay az c8] rfl rfl (MK.out.there 34 9 (by show 43<=44;decide)) (by kernel_rfl) (by simp[Value.oneCell']) ?_
 rw[show Wo.setCells sb 34 [ay az c0,ay az c1,ay az c2,ay az c3,ay az c4,ay az c5,ay az c6,ay az c7,ay az c8]=Ip from by rw[<-acz,<-acA,<-acB,<-acC,<-acD,<-acE,<-acF,<-acG,<-acH];rfl]
 go_wp2_with fail
 refine⟨⟨⟨_,⟨Vm.out.cell 15,Vm.out.cell 14⟩⟩,rfl⟩,?_⟩
 refine bF ?_
 clear dF qR
 have CC:=aH (C4.out.trans (((Ch.bh TR g4 B6.out)).trans (CS.mono (by decide))))
 have CS:=aH CS
 have k13:=(eM.out Ip g4 TR CC.out (by decide)).2.2.2.2.2.2.2.2.2.2.2.2.2
 have RB:=aH (R2.out.ch CC.out (by decide))
 clear s15 s14
 go_wp2_with fail
 refine sw 1 ?_
 rw[KU]
 have RNG:Ip.rangeAt sb 18 [ay az 0,aB ua tn uc,aB qa pn qc,ay az fi,ay az du,ay az rs,ay az he,ay az su,ay az li,ay az ld,ay az ba,aD aE now,aC ah,aC ah,aC ah,ay az 0,ay az c0,ay az c1,ay az c2,ay az c3,ay az c4,ay az c5,ay az c6,ay az c7,ay az c8,aB ae 0 0]:=Vm.out.range 18
 go_wp2_with (first | (refine wpList_load_mid (op:=⟨ag 62,.load 45 (.tmp 61),_,_,_,_⟩) rfl _ _ rfl sb 18 rfl [ay az 0,aB ua tn uc,aB qa pn qc,ay az fi,ay az du,ay az rs,ay az he,ay az su,ay az li,ay az ld,ay az ba,aD aE now,aC ah,aC ah,aC ah,ay az 0,ay az c0,ay az c1,ay az c2,ay az c3,ay az c4,ay az c5,ay az c6,ay az c7,ay az c8,aB ae 0 0] _ RNG Tryz.underlying45 rfl (by kernel_rfl) ?_) | (refine kF (o:=⟨ae,.store 45 (.tmp 2) (.tmp 62),_,_,_,_⟩) rfl _ _ _ rfl rb #[ay az 0,aB ua tn uc,aB qa pn qc,ay az fi,ay az du,ay az rs,ay az he,ay az su,ay az li,ay az ld,ay az ba,aD aE now,aC ah,aC ah,aC ah,ay az 0,ay az c0,ay az c1,ay az c2,ay az c3,ay az c4,ay az c5,ay az c6,ay az c7,ay az c8,aB ae 0 0] rfl rfl _ _ RB.out.row (by kernel_rfl) rfl (by simp[Value.oneCell']) ?_))
 refine bn (tR rfl rb rfl (oQ _ _ _ _ _ _ RB.out.row)) rfl ?_
 obtain⟨Io,yw⟩:=bP (Ip.setRow rb #[ay az 0,aB ua tn uc,aB qa pn qc,ay az fi,ay az du,ay az rs,ay az he,ay az su,ay az li,ay az ld,ay az ba,aD aE now,aC ah,aC ah,aC ah,ay az 0,ay az c0,ay az c1,ay az c2,ay az c3,ay az c4,ay az c5,ay az c6,ay az c7,ay az c8,aB ae 0 0])
 rw[yw]
 have CY:Ch [99] g4 Ip g4 Io:=by rw[<-yw];exact(Ch.refl _ _ _).setRow _ (.inl (by rw[RB.out.tag];decide))
 have CW:Ch TR qI w g4 Io:=by rw[<-yw];exact(C2.out.trans CC.out).setRow _ (.inr LEB.out)
 have c64:=((Ch.bh [70,99] g4 B6.out)).trans ((CS.out.mono (by decide)).trans (CY.mono (by decide)))
 refine⟨W,ua,qa,uc,qc,he,su,li,ld,ba,c0,c1,c2,c3,c4,c5,c6,c7,c8,now,g4,L4,?_,⟨⟨_,_,rfl⟩,?_,H4.out.Ei,λj x p h1 h2=>(H4.out.pat j x p h1 h2).ch c64 (by decide)⟩,TI4.out.1,TI4.out.2.1,TI4.out.2.2.1,TI4.out.2.2.2,CW⟩
 ·rw[NT.out.1,NT.out.2,<-FD.out.1,<-FD.out.2.1,<-FD.out.2.2,<-HB.out]
  rfl
 ·have e:=H4.out.Jg.ch c64 (by decide)
  rw[EPA.out]at e
  rw[NT.out.2]
  exact e
end
end
end Go.Proofs.YtooinenkenobaaaGreat

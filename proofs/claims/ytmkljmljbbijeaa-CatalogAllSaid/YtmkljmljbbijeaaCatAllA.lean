/- flumelaw10.CatalogAll: a catalog and its twin; a round's first part. -/
import Derived.Test.YtmkljmljbbijeaaCatRefWrite
import Derived.Test.YtmkljmljbbijeaaPlan
import Derived.Test.YtmkljmljbbijeaaOpenCats
import Derived.Test.YtmkljmljbbijeaaPiece
import Derived.Test.YtmkljmljbbijeaaCatBegun
import Derived.Test.YtmkljmljbbijeaaPlainCatRuns
import Derived.Test.YtmkljmljbbijeaaCatRefCut
namespace Go.Proofs.Ytmkljmljbbijeaa
open Go.RowKit

/-- The catalog among the arguments, the calls, the twin. -/
structure AllI (b off k ob tb g : Nat) (gen first : Int) (L : List SegV) (ao : Option Addr) (n ca cap : Nat) (O : COpV) (w : World) : Prop where
  len : L.length = n
  few : n ≤ 80
  e0 : w.cell? ⟨b, off + k * 3, none⟩ = some (.int .i64 gen)
  e1 : w.cell? ⟨b, off + k * 3 + 1, none⟩ = some (.int .i64 first)
  e2 : w.cell? ⟨b, off + k * 3 + 2, none⟩ = some (.slice ao n ca)
  at' : CatAt w (.agg #[.int .i64 gen, .int .i64 first, .slice ao n ca]) ⟨gen, first, L⟩
  ok : COpOk O
  op : w.heap[ob]? = some (.cells #[.int .i64 O.lsn, .int .i64 O.end_, .int .i64 O.size, .int .u32 (bv O.seed)] 25 (0, 0))
  box : w.heap[tb]? = some (.cells #[.int .i64 gen, .int .i64 first, .slice (some ⟨g, 0, none⟩) n cap] 29 (0, 0))
  room : n + 1 ≤ cap
  twin : OwnS w 0 (.slice (some ⟨g, 0, none⟩) (n + 1) cap) (L ++ [m7])
theorem AllI.below {b off k ob tb g : Nat} {gen first : Int} {L : List SegV} {ao : Option Addr} {n ca cap : Nat} {O : COpV} {w w' : World} (h : AllI b off k ob tb g gen first L ao n ca cap O w) (hb : Below w.heap.size w w') : AllI b off k ob tb g gen first L ao n ca cap O w' :=
  ⟨h.len, h.few, cell_keep hb h.e0, cell_keep hb h.e1, cell_keep hb h.e2, h.at'.below hb, h.ok, (hb.block _ (heap_lt h.op)).trans h.op, (hb.block _ (heap_lt h.box)).trans h.box, h.room, h.twin.keep hb⟩
theorem AllI.tat {b off k ob tb g : Nat} {gen first : Int} {L : List SegV} {ao : Option Addr} {n ca cap : Nat} {O : COpV} {w : World} (h : AllI b off k ob tb g gen first L ao n ca cap O w) : CatAt w (.agg #[.int .i64 gen, .int .i64 first, .slice (some ⟨g, 0, none⟩) n cap]) ⟨gen, first, L⟩ := by
  have hl := h.len
  have hf := h.few
  have hc := h.room
  refine ⟨⟨some ⟨g, 0, none⟩, cap, by dsimp only; rw [hl], fun i hi => ?_, by dsimp only; omega, by dsimp only; omega, fun e => by cases e⟩, h.at'.gen, h.at'.first⟩
  have hi2 : i < L.length := hi
  obtain ⟨hc, -⟩ := h.twin.cells (i := i) (by rw [List.length_append]; omega)
  have e : nthS (L ++ [m7]) i = nthS L i := by
    simp [nthS, List.getD_eq_getElem?_getD, List.getElem?_append_left hi2]
  rw [e] at hc
  exact ⟨h.at'.ok.segs i hi, g, 0, rfl, by rw [Nat.zero_add]; exact hc⟩
theorem AllI.mark {b off k ob tb g : Nat} {gen first : Int} {L : List SegV} {ao : Option Addr} {n ca cap : Nat} {O : COpV} {w : World} (h : AllI b off k ob tb g gen first L ao n ca cap O w) : w.cell? ⟨g, n * 5, none⟩ = some (.int .i64 (-7)) := by
  obtain ⟨hc, -⟩ := h.twin.cells (i := n) (by rw [List.length_append, h.len]; simp)
  have e : nthS (L ++ [m7]) n = m7 := by
    rw [← h.len]
    simp [nthS, List.getD_eq_getElem?_getD]
  rw [e] at hc
  exact hc.c0
/-- Both write the same. -/
def WriteIs (c : CatV) (bs : List (BitVec 8)) (er : Int) : Prop := (MayC c ∧ bs = catB c ∧ er = 0) ∨ (¬ MayC c ∧ bs = [] ∧ er = 4)
theorem write_ex (c : CatV) : ∃ bs er, WriteIs c bs er ∧ bs.length ≤ 3000 := by
  by_cases h : MayC c
  · exact ⟨_, _, .inl ⟨h, rfl, rfl⟩, catB_len c h.few⟩
  · exact ⟨_, _, .inr ⟨h, rfl, rfl⟩, by simp⟩
def WriteB (w : World) (bs : List (BitVec 8)) (er : Int) (e : Ending) (w' : World) : Prop := ∃ ao ca, e = .returned (.tuple #[.slice ao bs.length ca, .int .i64 er]) ∧ BytesAt w' ao bs ∧ Below w.heap.size w w'
theorem cat_write (gen first : Int) (ao : Option Addr) (n ca : Nat) (L : List SegV) (w : World) (hn : L.length = n) (hA : CatAt w (.agg #[.int .i64 gen, .int .i64 first, .slice ao n ca]) ⟨gen, first, L⟩) (bs : List (BitVec 8)) (er : Int) (hW : WriteIs ⟨gen, first, L⟩ bs er) :
    Calls Try.prog 17 #[.agg #[.int .i64 gen, .int .i64 first, .slice ao n ca]] w (WriteB w bs er) := by
  rcases hW with ⟨hM, rfl, rfl⟩ | ⟨hM, rfl, rfl⟩
  · refine (cat_write_ok gen first ao n ca L w hn hA hM).mono ?_
    rintro e w' ⟨v, rfl, ho, hb⟩
    obtain ⟨ao', ca', rfl, h1, -⟩ := ho.slice
    exact ⟨_, _, rfl, h1, hb⟩
  · refine (cat_write_no gen first ao n ca L w hA hM).mono ?_
    rintro e w' ⟨rfl, hb⟩
    exact ⟨none, 0, rfl, fun i hi => absurd hi (by simp), hb⟩
theorem ref_write (gen first : Int) (ao : Option Addr) (n ca : Nat) (L : List SegV) (w : World) (hn : L.length = n) (hA : CatAt w (.agg #[.int .i64 gen, .int .i64 first, .slice ao n ca]) ⟨gen, first, L⟩) (bs : List (BitVec 8)) (er : Int) (hW : WriteIs ⟨gen, first, L⟩ bs er) :
    Calls Try.prog 18 #[.agg #[.int .i64 gen, .int .i64 first, .slice ao n ca]] w (WriteB w bs er) := by
  rcases hW with ⟨hM, rfl, rfl⟩ | ⟨hM, rfl, rfl⟩
  · refine (ref_write_ok gen first ao n ca L w hn hA hM).mono ?_
    rintro e w' ⟨v, rfl, ho, hb⟩
    obtain ⟨ao', ca', rfl, h1, -⟩ := ho.slice
    exact ⟨_, _, rfl, h1, hb⟩
  · refine (ref_write_no gen first ao n ca L w hA hM).mono ?_
    rintro e w' ⟨rfl, hb⟩
    exact ⟨none, 0, rfl, fun i hi => absurd hi (by simp), hb⟩
end Go.Proofs.Ytmkljmljbbijeaa

/-! flumelaw10.CatalogAll: a round's first part: written, looked up, may it be. -/
namespace Go.Proofs.Ytmkljmljbbijeaa
open Go.RowKit

/-- What the drawn regions' reads lean on. -/
structure AllR (tb ob b o : Nat) (gen first lsn : Int) (v1 v2 : Value) (w : World) : Prop where
  t0 : w.cell? ⟨tb, 0, none⟩ = some (.int .i64 gen)
  t1 : w.cell? ⟨tb, 1, none⟩ = some (.int .i64 first)
  t2 : w.cell? ⟨tb, 2, none⟩ = some v1
  c0 : w.cell? ⟨b, o, none⟩ = some (.int .i64 gen)
  c1 : w.cell? ⟨b, o + 1, none⟩ = some (.int .i64 first)
  c2 : w.cell? ⟨b, o + 2, none⟩ = some v2
  o0 : w.cell? ⟨ob, 0, none⟩ = some (.int .i64 lsn)
theorem AllR.below {tb ob b o : Nat} {gen first lsn : Int} {v1 v2 : Value} {w w' : World} (h : AllR tb ob b o gen first lsn v1 v2 w) (hb : Below w.heap.size w w') : AllR tb ob b o gen first lsn v1 v2 w' :=
  ⟨cell_keep hb h.t0, cell_keep hb h.t1, cell_keep hb h.t2, cell_keep hb h.c0, cell_keep hb h.c1, cell_keep hb h.c2, cell_keep hb h.o0⟩
theorem AllI.r {b off k ob tb g : Nat} {gen first : Int} {L : List SegV} {ao : Option Addr} {n ca cap : Nat} {O : COpV} {w : World} (h : AllI b off k ob tb g gen first L ao n ca cap O w) : AllR tb ob b (off + k * 3) gen first O.lsn (.slice (some ⟨g, 0, none⟩) n cap) (.slice ao n ca) w :=
  ⟨cell_of_row _ _ 0 _ _ _ h.box, cell_of_row _ _ 1 _ _ _ h.box, cell_of_row _ _ 2 _ _ _ h.box, h.e0, h.e1, h.e2, cell_of_row _ _ 0 _ _ _ h.op⟩

set_option maxHeartbeats 16000000 in
set_option maxRecDepth 100000 in
theorem all_first (b off k ob n ca N cc : Nat) (gen first : Int) (L : List SegV) (ao : Option Addr) (O : COpV) (w : World) (Q : Exit → Act → World → Prop)
    (u1 u2 u4 u6 u7 u8 u9 u10 u11 u12 u13 u14 u15 u16 u17 u18 u19 u20 u21 u22 u23 u24 u25 u26 u27 u28 u29 u30 u31 u32 u33 u34 u35 u36 u37 u38 u39 u40 u41 u42 u43 u44 u45 u46 u47 u48 u49 u50 u51 u52 u53 u54 u55 u56 u57 u58 u59 u60 u61 u62 u63 u64 u65 u66 u67 u68 u69 u70 u71 u72 u73 u74 u75 u76 u77 u78 u79 u80 u81 u82 u83 u84 u85 u86 u87 u88 u89 u90 u91 u92 u93 u94 u95 u96 u97 u98 u99 u100 u101 u102 u103 u104 u105 u106 u107 u108 u109 u110 u111 u112 u113 u114 u115 u116 u117 u118 u119 u120 u121 u122 u123 u124 u125 u126 u127 u128 u129 u130 u131 u132 u133 u134 u135 u136 u137 u138 u139 u140 u141 u142 u143 u144 u145 u146 u147 u148 u149 u150 u151 u152 u153 u154 u155 u156 u157 u158 u159 u160 u161 u162 u163 u164 u165 u166 u167 u168 u169 u170 u171 u172 u173 u174 u175 u176 u177 u178 u179 u180 u181 u182 u183 u184 u185 u186 u187 u188 u189 u190 u191 u192 u193 u194 u195 u196 u197 u198 u199 u200 u201 u202 u203 u204 u205 u206 u207 u208 u209 u210 u211 u212 u213 u214 u215 u216 u217 u218 u219 u220 u221 u222 : Value)
    (hP : ∀ (c : List PanicEntry) (a : Act) (d : Option Tmp) (v : Value) (w : World), Q (.panic c) (a.put d v) w → Q (.panic c) a w)
    (hk : k < N) (len : Hid (L.length = n)) (few : n ≤ 80) (e0 : w.cell? ⟨b, off + k * 3, none⟩ = some (.int .i64 gen)) (e1 : w.cell? ⟨b, off + k * 3 + 1, none⟩ = some (.int .i64 first)) (e2 : w.cell? ⟨b, off + k * 3 + 2, none⟩ = some (.slice ao n ca))
    (HA : Hid (CatAt w (.agg #[.int .i64 gen, .int .i64 first, .slice ao n ca]) ⟨gen, first, L⟩)) (OK : Hid (COpOk O)) (OP : Hid (w.heap[ob]? = some (.cells #[.int .i64 O.lsn, .int .i64 O.end_, .int .i64 O.size, .int .u32 (bv O.seed)] 25 (0, 0))))
    (hrest : ∀ (wd : World) (tb g cap : Nat) (x4 x7 x8 x9 x10 x11 x12 x13 x14 x46 x47 x48 x49 x50 x51 x52 x53 x54 x55 x56 x57 x58 x59 x60 x61 x62 x63 x64 x65 x66 x67 x68 x69 x70 x71 x72 x73 x74 x75 x76 x77 x78 x79 x80 x81 x82 x83 x84 x85 x86 x87 x88 x89 x90 x91 x92 x93 x94 x95 x96 x97 x98 x99 x100 x101 x102 x103 x104 x105 x106 x107 x108 x109 : Value), AllI b off k ob tb g gen first L ao n ca cap O wd → Below w.heap.size w wd → (fromOf Try.f3 14).wp Try.prog Q ⟨#[.slice (some ⟨b, off, none⟩) N cc, u1, u2, .pointer (some ⟨ob, 0, none⟩), x4, .int .i64 k, .pointer (some ⟨tb, 0, none⟩), x7, x8, x9, x10, x11, x12, x13, x14, u15, u16, u17, u18, u19, u20, u21, u22, u23, u24, u25, u26, u27, u28, u29, u30, u31, u32, u33, u34, u35, u36, u37, u38, u39, u40, u41, u42, u43, u44, u45, x46, x47, x48, x49, x50, x51, x52, x53, x54, x55, x56, x57, x58, x59, x60, x61, x62, x63, x64, x65, x66, x67, x68, x69, x70, x71, x72, x73, x74, x75, x76, x77, x78, x79, x80, x81, x82, x83, x84, x85, x86, x87, x88, x89, x90, x91, x92, x93, x94, x95, x96, x97, x98, x99, x100, x101, x102, x103, x104, x105, x106, x107, x108, x109, u110, u111, u112, u113, u114, u115, u116, u117, u118, u119, u120, u121, u122, u123, u124, u125, u126, u127, u128, u129, u130, u131, u132, u133, u134, u135, u136, u137, u138, u139, u140, u141, u142, u143, u144, u145, u146, u147, u148, u149, u150, u151, u152, u153, u154, u155, u156, u157, u158, u159, u160, u161, u162, u163, u164, u165, u166, u167, u168, u169, u170, u171, u172, u173, u174, u175, u176, u177, u178, u179, u180, u181, u182, u183, u184, u185, u186, u187, u188, u189, u190, u191, u192, u193, u194, u195, u196, u197, u198, u199, u200, u201, u202, u203, u204, u205, u206, u207, u208, u209, u210, u211, u212, u213, u214, u215, u216, u217, u218, u219, u220, u221, u222], []⟩ wd) :
    (fromOf Try.f3 7).wp Try.prog Q ⟨#[.slice (some ⟨b, off, none⟩) N cc, u1, u2, .pointer (some ⟨ob, 0, none⟩), u4, .int .i64 k, u6, u7, u8, u9, u10, u11, u12, u13, u14, u15, u16, u17, u18, u19, u20, u21, u22, u23, u24, u25, u26, u27, u28, u29, u30, u31, u32, u33, u34, u35, u36, u37, u38, u39, u40, u41, u42, u43, u44, u45, u46, u47, u48, u49, u50, u51, u52, u53, u54, u55, u56, u57, u58, u59, u60, u61, u62, u63, u64, u65, u66, u67, u68, u69, u70, u71, u72, u73, u74, u75, u76, u77, u78, u79, u80, u81, u82, u83, u84, u85, u86, u87, u88, u89, u90, u91, u92, u93, u94, u95, u96, u97, u98, u99, u100, u101, u102, u103, u104, u105, u106, u107, u108, u109, u110, u111, u112, u113, u114, u115, u116, u117, u118, u119, u120, u121, u122, u123, u124, u125, u126, u127, u128, u129, u130, u131, u132, u133, u134, u135, u136, u137, u138, u139, u140, u141, u142, u143, u144, u145, u146, u147, u148, u149, u150, u151, u152, u153, u154, u155, u156, u157, u158, u159, u160, u161, u162, u163, u164, u165, u166, u167, u168, u169, u170, u171, u172, u173, u174, u175, u176, u177, u178, u179, u180, u181, u182, u183, u184, u185, u186, u187, u188, u189, u190, u191, u192, u193, u194, u195, u196, u197, u198, u199, u200, u201, u202, u203, u204, u205, u206, u207, u208, u209, u210, u211, u212, u213, u214, u215, u216, u217, u218, u219, u220, u221, u222], []⟩ w := by
  have HR := Lib.hid hrest
  have HP := Lib.hid hP
  clear hP
  clear hrest
  have kz : (k : Int) < (N : Int) := by omega
  have E := Lib.hid (And.intro e0 (And.intro e1 e2))
  conv => arg 2; whnf
  go_wp2_with fail
  refine (twin_walk gen first ao n ca L w len.out (by omega) HA.out).mono ?_
  rintro e w1 ⟨g, cap, rfl, hcap, hO, hb1⟩
  have bD := below_alloc w1 (.cells #[.int .i64 gen, .int .i64 first, .slice (some ⟨g, 0, none⟩) n cap] 29)
  have nD := heap_alloc_new w1 (.cells #[.int .i64 gen, .int .i64 first, .slice (some ⟨g, 0, none⟩) n cap] 29)
  obtain ⟨w2, hw2⟩ : ∃ w2, w1.alloc (.cells #[.int .i64 gen, .int .i64 first, .slice (some ⟨g, 0, none⟩) n cap] 29) = w2 := ⟨_, rfl⟩
  rw [hw2] at bD nD
  have B2 := Lib.hid (below_trans hb1 bD)
  have I2 := Lib.hid (show AllI b off k ob w1.heap.size g gen first L ao n ca cap O w2 from ⟨len.out, few, cell_keep B2.out e0, cell_keep B2.out e1, cell_keep B2.out e2, HA.out.below B2.out, OK.out, (B2.out.block _ (heap_lt OP.out)).trans OP.out, nD, hcap, OwnS.base (hO.keep bD) (Nat.zero_le _)⟩)
  obtain ⟨bs, er, hW, hbl⟩ := write_ex ⟨gen, first, L⟩
  have WI := Lib.hid hW
  have LB := Lib.hid hbl
  clear hb1 bD nD hO e0 e1 e2 hW hbl
  have t0 := I2.out.r.t0
  have t1 := I2.out.r.t1
  have t2 := I2.out.r.t2
  try dsimp only
  go_wp2_with fail
  refine (cat_write gen first (some ⟨g, 0, none⟩) n cap L w2 len.out I2.out.tat bs er WI.out).mono ?_
  rintro e w3 ⟨ab, cb, rfl, hab, hb3⟩
  have B3 := Lib.hid (below_trans B2.out hb3)
  have I3 := Lib.hid (I2.out.below hb3)
  have AB := Lib.hid hab
  clear hab hb3 t0 t1 t2
  have c0 := I3.out.e0
  have c1 := I3.out.e1
  have c2 := I3.out.e2
  try dsimp only
  go_wp2_with fail
  refine (ref_write gen first ao n ca L w3 len.out I3.out.at' bs er WI.out).mono ?_
  rintro e w4 ⟨ad, cd, rfl, had, hb4⟩
  have B4 := Lib.hid (below_trans B3.out hb4)
  have I4 := Lib.hid (I3.out.below hb4)
  have AB4 := Lib.hid (AB.out.below hb4)
  have AD := Lib.hid had
  clear had hb4 c0 c1 c2
  have t0 := I4.out.r.t0
  have t1 := I4.out.r.t1
  have t2 := I4.out.r.t2
  have o0 := I4.out.r.o0
  try dsimp only
  go_wp2_with fail
  refine (cat_at gen first O.lsn (some ⟨g, 0, none⟩) n cap L w4 len.out I4.out.tat).mono ?_
  rintro e w5 ⟨i, ok, hI, rfl, hb5⟩
  have B5 := Lib.hid (below_trans B4.out hb5)
  have I5 := Lib.hid (I4.out.below hb5)
  have AB5 := Lib.hid (AB4.out.below hb5)
  have AD5 := Lib.hid (AD.out.below hb5)
  have AI := Lib.hid hI
  clear hI hb5 t0 t1 t2 o0
  have q0 : ∀ p : In (AllR w1.heap.size ob b (off + k * 3) gen first O.lsn (.slice (some ⟨g, 0, none⟩) n cap) (.slice ao n ca)), p.w.cell? ⟨w1.heap.size, 0, none⟩ = some (.int .i64 gen) := fun p => p.h.t0
  have q1 : ∀ p : In (AllR w1.heap.size ob b (off + k * 3) gen first O.lsn (.slice (some ⟨g, 0, none⟩) n cap) (.slice ao n ca)), p.w.cell? ⟨w1.heap.size, 1, none⟩ = some (.int .i64 first) := fun p => p.h.t1
  have q2 : ∀ p : In (AllR w1.heap.size ob b (off + k * 3) gen first O.lsn (.slice (some ⟨g, 0, none⟩) n cap) (.slice ao n ca)), p.w.cell? ⟨w1.heap.size, 2, none⟩ = some (.slice (some ⟨g, 0, none⟩) n cap) := fun p => p.h.t2
  have q3 : ∀ p : In (AllR w1.heap.size ob b (off + k * 3) gen first O.lsn (.slice (some ⟨g, 0, none⟩) n cap) (.slice ao n ca)), p.w.cell? ⟨b, off + k * 3, none⟩ = some (.int .i64 gen) := fun p => p.h.c0
  have q4 : ∀ p : In (AllR w1.heap.size ob b (off + k * 3) gen first O.lsn (.slice (some ⟨g, 0, none⟩) n cap) (.slice ao n ca)), p.w.cell? ⟨b, off + k * 3 + 1, none⟩ = some (.int .i64 first) := fun p => p.h.c1
  have q5 : ∀ p : In (AllR w1.heap.size ob b (off + k * 3) gen first O.lsn (.slice (some ⟨g, 0, none⟩) n cap) (.slice ao n ca)), p.w.cell? ⟨b, off + k * 3 + 2, none⟩ = some (.slice ao n ca) := fun p => p.h.c2
  have q6 : ∀ p : In (AllR w1.heap.size ob b (off + k * 3) gen first O.lsn (.slice (some ⟨g, 0, none⟩) n cap) (.slice ao n ca)), p.w.cell? ⟨ob, 0, none⟩ = some (.int .i64 O.lsn) := fun p => p.h.o0
  try dsimp only
  go_wp2_with fail
  refine wp_region_mixed [0, 1, 2, 3, 4, 5, 6, 7, 8, 9, 10, 11] (AllR w1.heap.size ob b (off + k * 3) gen first O.lsn (.slice (some ⟨g, 0, none⟩) n cap) (.slice ao n ca)) (by kernel_rfl) (by kernel_rfl) (fun c a d v w h => HP.out c a d v w h) (I5.out.r.below (below_drew _)) ?_
  intro hne
  simp only [pick, List.map_cons, List.map_nil, List.getD_cons_zero, List.getD_cons_succ]
  refine wpMix_reads 6 _ (by kernel_rfl) ?_
  simp only [List.take_succ_cons, List.take_zero, List.drop_succ_cons, List.drop_zero]
  repeat (go_big_quiet_step (fail))
  refine wpQuiet_nil ?_
  refine wpMix_act rfl ?_ rfl
  try dsimp only
  go_wp2_with fail
  refine (ref_at gen first O.lsn ao n ca L w5.drew len.out (I5.out.at'.below (below_drew _))).mono ?_
  rintro e w6 ⟨i2, ok2, hI2, rfl, hb6⟩
  obtain ⟨rfl, rfl⟩ := AtIs.uniq AI.out hI2
  have B56 := below_trans (below_drew w5) hb6
  have B6 := Lib.hid (below_trans B5.out B56)
  have I6 := Lib.hid (I5.out.below B56)
  have AB6 := Lib.hid (AB5.out.below B56)
  have AD6 := Lib.hid (AD5.out.below B56)
  clear hI2 hb6 B56
  try dsimp only
  go_wp2_with fail
  refine ⟨⟨⟨_, I6.out.r⟩, rfl⟩, ?_⟩
  refine wpMix_reads 5 _ (by kernel_rfl) ?_
  simp only [List.take_succ_cons, List.take_zero, List.drop_succ_cons, List.drop_zero]
  repeat (go_big_quiet_step (fail))
  refine wpQuiet_nil ?_
  refine wpMix_nil ?_
  clear hne
  obtain ⟨t, ht⟩ : ∃ t : Bool, t = true ↔ MayC ⟨gen, first, L⟩ := by
    by_cases h : MayC ⟨gen, first, L⟩
    · exact ⟨true, by simp [h]⟩
    · exact ⟨false, by simp [h]⟩
  have HT := Lib.hid ht
  clear ht
  try dsimp only
  go_wp2_with fail
  refine wp_region_mixed [0, 2, 3, 4, 5, 1, 6, 7, 8, 9, 10, 11, 12, 13, 14, 15, 16, 17, 18, 19, 20, 21, 22, 23, 24, 25, 26, 27, 28] (AllR w1.heap.size ob b (off + k * 3) gen first O.lsn (.slice (some ⟨g, 0, none⟩) n cap) (.slice ao n ca)) (by kernel_rfl) (by kernel_rfl) (fun c a d v w h => HP.out c a d v w h) (I6.out.r.below (below_drew _)) ?_
  intro hne
  simp only [pick, List.map_cons, List.map_nil, List.getD_cons_zero, List.getD_cons_succ]
  refine wpMix_reads 5 _ (by kernel_rfl) ?_
  simp only [List.take_succ_cons, List.take_zero, List.drop_succ_cons, List.drop_zero]
  repeat (go_big_quiet_step (fail))
  refine wpQuiet_nil ?_
  refine wpMix_act rfl ?_ rfl
  go_wp2_with fail
  refine (cat_may ⟨gen, first, L⟩ _ w6.drew (I6.out.tat.below (below_drew _)) t HT.out).mono ?_
  rintro e w7 ⟨rfl, hb7⟩
  have B67 := below_trans (below_drew w6) hb7
  have B7 := Lib.hid (below_trans B6.out B67)
  have I7 := Lib.hid (I6.out.below B67)
  have AB7 := Lib.hid (AB6.out.below B67)
  have AD7 := Lib.hid (AD6.out.below B67)
  clear hb7 B67
  try dsimp only
  go_wp2_with fail
  refine ⟨⟨⟨_, I7.out.r⟩, rfl⟩, ?_⟩
  refine wpMix_act rfl ?_ rfl
  go_wp2_with fail
  refine (ref_may ⟨gen, first, L⟩ _ w7 I7.out.at' t HT.out).mono ?_
  rintro e w8 ⟨rfl, hb8⟩
  have B8 := Lib.hid (below_trans B7.out hb8)
  have I8 := Lib.hid (I7.out.below hb8)
  have AB8 := Lib.hid (AB7.out.below hb8)
  have AD8 := Lib.hid (AD7.out.below hb8)
  clear hb8
  try dsimp only
  go_wp2_with fail
  refine ⟨⟨⟨_, I8.out.r⟩, rfl⟩, ?_⟩
  refine wpMix_reads 4 _ (by kernel_rfl) ?_
  simp only [List.take_succ_cons, List.take_zero, List.drop_succ_cons, List.drop_zero]
  repeat (go_big_quiet_step (fail))
  refine wpQuiet_nil ?_
  refine wpMix_act rfl ?_ rfl
  go_wp2_with fail
  refine (eq_bytes_of ab ad bs bs _ _ cb cd true w8 AB8.out AD8.out rfl rfl (by have := LB.out; omega) (decide_eq_true rfl)).mono ?_
  rintro e w9 ⟨rfl, n9, hw9⟩
  have B89 : Below w8.heap.size w8 w9 := by rw [hw9]; exact below_drewN _ _
  have B9 := Lib.hid (below_trans B8.out B89)
  have I9 := Lib.hid (I8.out.below B89)
  clear hw9 B89
  try dsimp only
  go_wp2_with fail
  refine ⟨⟨⟨_, I9.out.r⟩, rfl⟩, ?_⟩
  refine wpMix_reads 17 _ (by kernel_rfl) ?_
  simp only [List.take_succ_cons, List.take_zero, List.drop_succ_cons, List.drop_zero]
  repeat (go_big_quiet_step (fail))
  refine wpQuiet_nil ?_
  refine wpMix_nil ?_
  clear hne q0 q1 q2 q3 q4 q5 q6
  try dsimp only
  go_upto_if 109 with (fail)
  go_cut [] from 46 to 109 (fun wd => wd = w9)
  case first =>
    go_wp2_with fail
    go_meet
    rfl
  case rest =>
    subst hcut
    go_step
    exact HR.out _ _ _ _ _ _ _ _ _ _ _ _ _ _ _ _ _ _ _ _ _ _ _ _ _ _ _ _ _ _ _ _ _ _ _ _ _ _ _ _ _ _ _ _ _ _ _ _ _ _ _ _ _ _ _ _ _ _ _ _ _ _ _ _ _ _ _ _ _ _ _ _ _ _ _ _ _ I9.out B9.out
end Go.Proofs.Ytmkljmljbbijeaa

/-! flumelaw10.CatalogAll: a turn's first part: rolled and cut, by the program and by the document. -/
namespace Go.Proofs.Ytmkljmljbbijeaa
open Go.RowKit

/-- What a turn's drawn regions' reads lean on. -/
structure TurnR (tb ob b o : Nat) (gen first : Int) (O : COpV) (v1 v2 : Value) (w : World) : Prop where
  t0 : w.cell? ⟨tb, 0, none⟩ = some (.int .i64 gen)
  t1 : w.cell? ⟨tb, 1, none⟩ = some (.int .i64 first)
  t2 : w.cell? ⟨tb, 2, none⟩ = some v1
  c0 : w.cell? ⟨b, o, none⟩ = some (.int .i64 gen)
  c1 : w.cell? ⟨b, o + 1, none⟩ = some (.int .i64 first)
  c2 : w.cell? ⟨b, o + 2, none⟩ = some v2
  o0 : w.cell? ⟨ob, 0, none⟩ = some (.int .i64 O.lsn)
  o1 : w.cell? ⟨ob, 1, none⟩ = some (.int .i64 O.end_)
  o2 : w.cell? ⟨ob, 2, none⟩ = some (.int .i64 O.size)
  o3 : w.cell? ⟨ob, 3, none⟩ = some (.int .u32 (bv O.seed))
theorem TurnR.below {tb ob b o : Nat} {gen first : Int} {O : COpV} {v1 v2 : Value} {w w' : World} (h : TurnR tb ob b o gen first O v1 v2 w) (hb : Below w.heap.size w w') : TurnR tb ob b o gen first O v1 v2 w' :=
  ⟨cell_keep hb h.t0, cell_keep hb h.t1, cell_keep hb h.t2, cell_keep hb h.c0, cell_keep hb h.c1, cell_keep hb h.c2, cell_keep hb h.o0, cell_keep hb h.o1, cell_keep hb h.o2, cell_keep hb h.o3⟩
theorem AllI.t {b off k ob tb g : Nat} {gen first : Int} {L : List SegV} {ao : Option Addr} {n ca cap : Nat} {O : COpV} {w : World} (h : AllI b off k ob tb g gen first L ao n ca cap O w) : TurnR tb ob b (off + k * 3) gen first O (.slice (some ⟨g, 0, none⟩) n cap) (.slice ao n ca) w :=
  ⟨cell_of_row _ _ 0 _ _ _ h.box, cell_of_row _ _ 1 _ _ _ h.box, cell_of_row _ _ 2 _ _ _ h.box, h.e0, h.e1, h.e2, cell_of_row _ _ 0 _ _ _ h.op, cell_of_row _ _ 1 _ _ _ h.op, cell_of_row _ _ 2 _ _ _ h.op, cell_of_row _ _ 3 _ _ _ h.op⟩
/-- A catalog in a box of its own, its segments the call's own. -/
structure CatBox (w : World) (base q : Nat) (r : CatV) (ar : Option Addr) (cr : Nat) : Prop where
  row : w.heap[q]? = some (.cells #[.int .i64 r.gen, .int .i64 r.first, .slice ar r.segs.length cr] 29 (0, 0))
  own : CatOwn w base (.agg #[.int .i64 r.gen, .int .i64 r.first, .slice ar r.segs.length cr]) r
theorem CatOwn.base {w : World} {base base' : Nat} {v : Value} {c : CatV} (h : CatOwn w base v c) (hb : base' ≤ base) : CatOwn w base' v c := by
  obtain ⟨vs, rfl, ho⟩ := h.own
  exact ⟨⟨vs, rfl, ho.base hb⟩, h.ok, h.few⟩
theorem CatBox.below {w w' : World} {base q : Nat} {r : CatV} {ar : Option Addr} {cr : Nat} (h : CatBox w base q r ar cr) (hb : Below w.heap.size w w') : CatBox w' base q r ar cr := ⟨(hb.block _ (heap_lt h.row)).trans h.row, h.own.keep hb⟩
theorem RollIs.short {c : CatV} {en size : Int} {seed : BitVec 32} {r : CatV} {er : Int} (h : RollIs c en size seed r er) : r.segs.length ≤ 64 := by
  rcases h with ⟨-, rfl, -⟩ | ⟨-, -, rfl, -⟩ | ⟨-, -, -, rfl, -⟩ | ⟨-, -, ⟨-, -, h⟩, rfl, -⟩
  · exact Nat.zero_le _
  · exact Nat.zero_le _
  · exact Nat.zero_le _
  · exact h.few
theorem CutIs.short {c : CatV} {lsn : Int} {r : CatV} {nums : List Int} {er : Int} (h : CutIs c lsn r nums er) : r.segs.length ≤ 64 := by
  rcases h with ⟨-, rfl, -⟩ | ⟨k, -, -, -, rfl, -⟩ | ⟨k, -, -, ⟨-, -, h⟩, rfl, -⟩
  · exact Nat.zero_le _
  · exact Nat.zero_le _
  · exact h.few
set_option maxHeartbeats 16000000 in
set_option maxRecDepth 100000 in
theorem all_roll (b off k ob tb g n ca cap N cc : Nat) (gen first : Int) (L : List SegV) (ao : Option Addr) (O : COpV) (w : World) (Q : Exit → Act → World → Prop)
    (u1 u2 u4 u7 u8 u9 u10 u11 u12 u13 u14 u15 u16 u17 u18 u19 u20 u21 u22 u23 u24 u25 u26 u27 u28 u29 u30 u31 u32 u33 u34 u35 u36 u37 u38 u39 u40 u41 u42 u43 u44 u45 u46 u47 u48 u49 u50 u51 u52 u53 u54 u55 u56 u57 u58 u59 u60 u61 u62 u63 u64 u65 u66 u67 u68 u69 u70 u71 u72 u73 u74 u75 u76 u77 u78 u79 u80 u81 u82 u83 u84 u85 u86 u87 u88 u89 u90 u91 u92 u93 u94 u95 u96 u97 u98 u99 u100 u101 u102 u103 u104 u105 u106 u107 u108 u109 u110 u111 u112 u113 u114 u115 u116 u117 u118 u119 u120 u121 u122 u123 u124 u125 u126 u127 u128 u129 u130 u131 u132 u133 u134 u135 u136 u137 u138 u139 u140 u141 u142 u143 u144 u145 u146 u147 u148 u149 u150 u151 u152 u153 u154 u155 u156 u157 u158 u159 u160 u161 u162 u163 u164 u165 u166 u167 u168 u169 u170 u171 u172 u173 u174 u175 u176 u177 u178 u179 u180 u181 u182 u183 u184 u185 u186 u187 u188 u189 u190 u191 u192 u193 u194 u195 u196 u197 u198 u199 u200 u201 u202 u203 u204 u205 u206 u207 u208 u209 u210 u211 u212 u213 u214 u215 u216 u217 u218 u219 u220 u221 u222 : Value)
    (hP : ∀ (c : List PanicEntry) (a : Act) (d : Option Tmp) (v : Value) (w : World), Q (.panic c) (a.put d v) w → Q (.panic c) a w)
    (hk : k < N) (I : Hid (AllI b off k ob tb g gen first L ao n ca cap O w))
    (hrest : ∀ (wd : World) (rb db : Nat) (r : CatV) (ar ad : Option Addr) (cr cd : Nat) (er : Int) (x114 x115 x116 x117 x118 x119 x120 x121 x122 x123 x124 x125 x126 x127 x128 x129 x130 x131 x132 x133 x134 x135 x136 x137 x138 : Value), AllI b off k ob tb g gen first L ao n ca cap O wd → CatBox wd w.heap.size rb r ar cr → CatBox wd w.heap.size db r ad cd → Below w.heap.size w wd → r.segs.length ≤ 64 →
      (fromOf Try.f3 19).wp Try.prog Q ⟨#[.slice (some ⟨b, off, none⟩) N cc, u1, u2, .pointer (some ⟨ob, 0, none⟩), u4, .int .i64 k, .pointer (some ⟨tb, 0, none⟩), u7, u8, u9, u10, u11, u12, u13, u14, u15, .pointer (some ⟨rb, 0, none⟩), .int .i64 er, .pointer (some ⟨db, 0, none⟩), .int .i64 er, u20, u21, u22, u23, u24, u25, u26, u27, u28, u29, u30, u31, u32, u33, u34, u35, u36, u37, u38, u39, u40, u41, u42, u43, u44, u45, u46, u47, u48, u49, u50, u51, u52, u53, u54, u55, u56, u57, u58, u59, u60, u61, u62, u63, u64, u65, u66, u67, u68, u69, u70, u71, u72, u73, u74, u75, u76, u77, u78, u79, u80, u81, u82, u83, u84, u85, u86, u87, u88, u89, u90, u91, u92, u93, u94, u95, u96, u97, u98, u99, u100, u101, u102, u103, u104, u105, u106, u107, u108, u109, u110, u111, u112, u113, x114, x115, x116, x117, x118, x119, x120, x121, x122, x123, x124, x125, x126, x127, x128, x129, x130, x131, x132, x133, x134, x135, x136, x137, x138, u139, u140, u141, u142, u143, u144, u145, u146, u147, u148, u149, u150, u151, u152, u153, u154, u155, u156, u157, u158, u159, u160, u161, u162, u163, u164, u165, u166, u167, u168, u169, u170, u171, u172, u173, u174, u175, u176, u177, u178, u179, u180, u181, u182, u183, u184, u185, u186, u187, u188, u189, u190, u191, u192, u193, u194, u195, u196, u197, u198, u199, u200, u201, u202, u203, u204, u205, u206, u207, u208, u209, u210, u211, u212, u213, u214, u215, u216, u217, u218, u219, u220, u221, u222], []⟩ wd) :
    (fromOf Try.f3 17).wp Try.prog Q ⟨#[.slice (some ⟨b, off, none⟩) N cc, u1, u2, .pointer (some ⟨ob, 0, none⟩), u4, .int .i64 k, .pointer (some ⟨tb, 0, none⟩), u7, u8, u9, u10, u11, u12, u13, u14, u15, u16, u17, u18, u19, u20, u21, u22, u23, u24, u25, u26, u27, u28, u29, u30, u31, u32, u33, u34, u35, u36, u37, u38, u39, u40, u41, u42, u43, u44, u45, u46, u47, u48, u49, u50, u51, u52, u53, u54, u55, u56, u57, u58, u59, u60, u61, u62, u63, u64, u65, u66, u67, u68, u69, u70, u71, u72, u73, u74, u75, u76, u77, u78, u79, u80, u81, u82, u83, u84, u85, u86, u87, u88, u89, u90, u91, u92, u93, u94, u95, u96, u97, u98, u99, u100, u101, u102, u103, u104, u105, u106, u107, u108, u109, u110, u111, u112, u113, u114, u115, u116, u117, u118, u119, u120, u121, u122, u123, u124, u125, u126, u127, u128, u129, u130, u131, u132, u133, u134, u135, u136, u137, u138, u139, u140, u141, u142, u143, u144, u145, u146, u147, u148, u149, u150, u151, u152, u153, u154, u155, u156, u157, u158, u159, u160, u161, u162, u163, u164, u165, u166, u167, u168, u169, u170, u171, u172, u173, u174, u175, u176, u177, u178, u179, u180, u181, u182, u183, u184, u185, u186, u187, u188, u189, u190, u191, u192, u193, u194, u195, u196, u197, u198, u199, u200, u201, u202, u203, u204, u205, u206, u207, u208, u209, u210, u211, u212, u213, u214, u215, u216, u217, u218, u219, u220, u221, u222], []⟩ w := by
  have HR := Lib.hid hrest
  have HP := Lib.hid hP
  clear hrest hP
  have kz : (k : Int) < (N : Int) := by omega
  have t0 := I.out.t.t0
  have t1 := I.out.t.t1
  have t2 := I.out.t.t2
  have o1 := I.out.t.o1
  have o2 := I.out.t.o2
  have o3 := I.out.t.o3
  conv => arg 2; whnf
  go_wp2_with fail
  refine (cat_roll gen first O.end_ O.size (bv O.seed) O.seed (some ⟨g, 0, none⟩) n cap L w rfl I.out.len I.out.tat I.out.ok.end_ I.out.ok.size).mono ?_
  rintro e w1 ⟨v, r, er, hI, rfl, hO, hb1⟩
  obtain ⟨ar, cr, rfl, -⟩ := hO.shown
  have bD := below_alloc w1 (.cells #[.int .i64 r.gen, .int .i64 r.first, .slice ar r.segs.length cr] 29)
  have nD := heap_alloc_new w1 (.cells #[.int .i64 r.gen, .int .i64 r.first, .slice ar r.segs.length cr] 29)
  obtain ⟨w2, hw2⟩ : ∃ w2, w1.alloc (.cells #[.int .i64 r.gen, .int .i64 r.first, .slice ar r.segs.length cr] 29) = w2 := ⟨_, rfl⟩
  rw [hw2] at bD nD
  have B2 := Lib.hid (below_trans hb1 bD)
  have I2 := Lib.hid (I.out.below B2.out)
  have BX2 := Lib.hid (show CatBox w2 w.heap.size w1.heap.size r ar cr from ⟨nD, hO.keep bD⟩)
  have RI := Lib.hid hI
  clear hb1 bD nD hO hI t0 t1 t2 o1 o2 o3
  have qt0 : ∀ p : In (TurnR tb ob b (off + k * 3) gen first O (.slice (some ⟨g, 0, none⟩) n cap) (.slice ao n ca)), p.w.cell? ⟨tb, 0, none⟩ = some (.int .i64 gen) := fun p => p.h.t0
  have qt1 : ∀ p : In (TurnR tb ob b (off + k * 3) gen first O (.slice (some ⟨g, 0, none⟩) n cap) (.slice ao n ca)), p.w.cell? ⟨tb, 1, none⟩ = some (.int .i64 first) := fun p => p.h.t1
  have qt2 : ∀ p : In (TurnR tb ob b (off + k * 3) gen first O (.slice (some ⟨g, 0, none⟩) n cap) (.slice ao n ca)), p.w.cell? ⟨tb, 2, none⟩ = some (.slice (some ⟨g, 0, none⟩) n cap) := fun p => p.h.t2
  have qc0 : ∀ p : In (TurnR tb ob b (off + k * 3) gen first O (.slice (some ⟨g, 0, none⟩) n cap) (.slice ao n ca)), p.w.cell? ⟨b, off + k * 3, none⟩ = some (.int .i64 gen) := fun p => p.h.c0
  have qc1 : ∀ p : In (TurnR tb ob b (off + k * 3) gen first O (.slice (some ⟨g, 0, none⟩) n cap) (.slice ao n ca)), p.w.cell? ⟨b, off + k * 3 + 1, none⟩ = some (.int .i64 first) := fun p => p.h.c1
  have qc2 : ∀ p : In (TurnR tb ob b (off + k * 3) gen first O (.slice (some ⟨g, 0, none⟩) n cap) (.slice ao n ca)), p.w.cell? ⟨b, off + k * 3 + 2, none⟩ = some (.slice ao n ca) := fun p => p.h.c2
  have qo0 : ∀ p : In (TurnR tb ob b (off + k * 3) gen first O (.slice (some ⟨g, 0, none⟩) n cap) (.slice ao n ca)), p.w.cell? ⟨ob, 0, none⟩ = some (.int .i64 O.lsn) := fun p => p.h.o0
  have qo1 : ∀ p : In (TurnR tb ob b (off + k * 3) gen first O (.slice (some ⟨g, 0, none⟩) n cap) (.slice ao n ca)), p.w.cell? ⟨ob, 1, none⟩ = some (.int .i64 O.end_) := fun p => p.h.o1
  have qo2 : ∀ p : In (TurnR tb ob b (off + k * 3) gen first O (.slice (some ⟨g, 0, none⟩) n cap) (.slice ao n ca)), p.w.cell? ⟨ob, 2, none⟩ = some (.int .i64 O.size) := fun p => p.h.o2
  have qo3 : ∀ p : In (TurnR tb ob b (off + k * 3) gen first O (.slice (some ⟨g, 0, none⟩) n cap) (.slice ao n ca)), p.w.cell? ⟨ob, 3, none⟩ = some (.int .u32 (bv O.seed)) := fun p => p.h.o3
  try dsimp only
  go_wp2_with fail
  refine wp_region_fork [0, 1, 2, 3, 4, 5, 6, 7, 8, 9] 10 14 [11, 12, 13, 14, 15, 16] [10, 11, 12, 13, 15, 16] (TurnR tb ob b (off + k * 3) gen first O (.slice (some ⟨g, 0, none⟩) n cap) (.slice ao n ca)) (by kernel_rfl) (by kernel_rfl) (fun c a d v w h => HP.out c a d v w h) (I2.out.t.below (below_drew _)) ?_
  intro hne
  simp only [pick, List.map_cons, List.map_nil, List.getD_cons_zero, List.getD_cons_succ]
  repeat (go_big_quiet_step (fail))
  refine wpQuiet_nil ?_
  have I2D := Lib.hid (I2.out.below (below_drew w2))
  refine ⟨?_, ?_⟩
  · refine wpMix_act rfl ?_ rfl
    go_wp2_with fail
    refine (ref_roll gen first O.end_ O.size (bv O.seed) O.seed ao n ca L w2.drew rfl I.out.len I2D.out.at' I.out.ok.end_ I.out.ok.size).mono ?_
    rintro e w3 ⟨v, r2, er2, hI2, rfl, hO, hb3⟩
    obtain ⟨rfl, rfl⟩ := RollIs.uniq RI.out hI2
    obtain ⟨ad, cd, rfl, -⟩ := hO.shown
    have B23 := Lib.hid (below_trans (below_drew w2) hb3)
    have OD := Lib.hid hO
    have hN := heap_alloc_new w3 (.cells #[.int .i64 0, .int .i64 0, .slice none 0 0] 29)
    have z0 := cell_of_row _ _ 0 _ _ _ hN
    have z1 := cell_of_row _ _ 1 _ _ _ hN
    have z2 := cell_of_row _ _ 2 _ _ _ hN
    have y0 := frozen_of_row _ _ 0 _ _ hN
    have y1 := frozen_of_row _ _ 1 _ _ hN
    have y2 := frozen_of_row _ _ 2 _ _ hN
    have BZ := Lib.hid (below_trans B23.out (below_alloc w3 (.cells #[.int .i64 0, .int .i64 0, .slice none 0 0] 29)))
    have BF := Lib.hid (below_trans B23.out (below_alloc w3 (.cells #[.int .i64 r.gen, .int .i64 r.first, .slice ad r.segs.length cd] 29)))
    have BD := Lib.hid (show CatBox (w3.alloc (.cells #[.int .i64 r.gen, .int .i64 r.first, .slice ad r.segs.length cd] 29)) w2.drew.heap.size w3.heap.size r ad cd from ⟨heap_alloc_new _ _, hO.keep (below_alloc _ _)⟩)
    clear hI2 hO hb3 hN
    try dsimp only
    go_wp2_with fail
    refine ⟨⟨⟨_, I2.out.t.below B23.out⟩, rfl⟩, ?_⟩
    refine wpMix_reads 3 _ (by kernel_rfl) ?_
    simp only [List.take_succ_cons, List.take_zero, List.drop_succ_cons, List.drop_zero]
    repeat (go_big_quiet_step (fail))
    refine wpQuiet_nil ?_
    refine wpMix_act rfl ?_ rfl
    go_wp2_with fail
    refine ⟨⟨⟨_, I2.out.t.below BZ.out⟩, rfl⟩, ?_⟩
    refine wpMix_act rfl ?_ rfl
    go_wp2_with fail
    refine ⟨⟨⟨_, I2.out.t.below BF.out⟩, rfl⟩, ?_⟩
    refine wpMix_reads 1 _ (by kernel_rfl) ?_
    simp only [List.take_succ_cons, List.take_zero, List.drop_succ_cons, List.drop_zero]
    repeat (go_big_quiet_step (fail))
    refine wpQuiet_nil ?_
    refine wpMix_nil ?_
    clear hne z0 z1 z2 y0 y1 y2
    try dsimp only
    go_step
    go_step
    exact HR.out _ _ _ _ _ _ _ _ _ _ _ _ _ _ _ _ _ _ _ _ _ _ _ _ _ _ _ _ _ _ _ _ _ _ (I2.out.below BF.out) (BX2.out.below BF.out) ⟨BD.out.row, CatOwn.base BD.out.own (show w.heap.size ≤ w2.heap.size from B2.out.size)⟩ (below_trans B2.out BF.out) RI.out.short
  · refine wpMix_act rfl ?_ rfl
    go_wp2_with fail
    have BZ := Lib.hid (below_trans (below_drew w2) (below_alloc w2.drew (.cells #[.int .i64 0, .int .i64 0, .slice none 0 0] 29)))
    have NZ := Lib.hid (heap_alloc_new w2.drew (.cells #[.int .i64 0, .int .i64 0, .slice none 0 0] 29))
    refine ⟨⟨⟨_, I2.out.t.below BZ.out⟩, rfl⟩, ?_⟩
    refine wpMix_act rfl ?_ rfl
    go_wp2_with fail
    refine (ref_roll gen first O.end_ O.size (bv O.seed) O.seed ao n ca L (w2.drew.alloc (.cells #[.int .i64 0, .int .i64 0, .slice none 0 0] 29)) rfl I.out.len (I2.out.below BZ.out).at' I.out.ok.end_ I.out.ok.size).mono ?_
    rintro e w3 ⟨v, r2, er2, hI2, rfl, hO, hb3⟩
    obtain ⟨rfl, rfl⟩ := RollIs.uniq RI.out hI2
    obtain ⟨ad, cd, rfl, -⟩ := hO.shown
    have B23 := Lib.hid (below_trans BZ.out hb3)
    have N3 := Lib.hid (show w3.heap[w2.heap.size]? = some (.cells #[.int .i64 0, .int .i64 0, .slice none 0 0] 29 (0, 0)) from (hb3.block _ (heap_lt NZ.out)).trans NZ.out)
    have OD := Lib.hid hO
    have z0 := cell_of_row _ _ 0 _ _ _ N3.out
    have z1 := cell_of_row _ _ 1 _ _ _ N3.out
    have z2 := cell_of_row _ _ 2 _ _ _ N3.out
    have y0 := frozen_of_row _ _ 0 _ _ N3.out
    have y1 := frozen_of_row _ _ 1 _ _ N3.out
    have y2 := frozen_of_row _ _ 2 _ _ N3.out
    have LZ := Lib.hid (show w2.heap.size < (w2.drew.alloc (.cells #[.int .i64 0, .int .i64 0, .slice none 0 0] 29)).heap.size from heap_lt NZ.out)
    have BF := Lib.hid (show Below w2.heap.size w2 (((w3.setCell ⟨w2.heap.size, 0, none⟩ (.int .i64 r.gen)).setCell ⟨w2.heap.size, 1, none⟩ (.int .i64 r.first)).setCell ⟨w2.heap.size, 2, none⟩ (.slice ad r.segs.length cd)) from put3_below B23.out (Nat.le_refl _) _ _ _)
    have BD := Lib.hid (show CatBox (((w3.setCell ⟨w2.heap.size, 0, none⟩ (.int .i64 r.gen)).setCell ⟨w2.heap.size, 1, none⟩ (.int .i64 r.first)).setCell ⟨w2.heap.size, 2, none⟩ (.slice ad r.segs.length cd)) w2.heap.size w2.heap.size r ad cd from ⟨put3 N3.out _ _ _, CatOwn.base (hO.move fun q hq => put3_off (by have := LZ.out; omega) _ _ _) (Nat.le_of_lt LZ.out)⟩)
    clear hI2 hO hb3
    try dsimp only
    go_wp2_with fail
    refine ⟨⟨⟨_, I2.out.t.below B23.out⟩, rfl⟩, ?_⟩
    refine wpMix_reads 3 _ (by kernel_rfl) ?_
    simp only [List.take_succ_cons, List.take_zero, List.drop_succ_cons, List.drop_zero]
    repeat (go_big_quiet_step (fail))
    refine wpQuiet_nil ?_
    refine wpMix_act rfl ?_ rfl
    go_wp2_with fail
    refine ⟨⟨⟨_, I2.out.t.below BF.out⟩, rfl⟩, ?_⟩
    refine wpMix_reads 1 _ (by kernel_rfl) ?_
    simp only [List.take_succ_cons, List.take_zero, List.drop_succ_cons, List.drop_zero]
    repeat (go_big_quiet_step (fail))
    refine wpQuiet_nil ?_
    refine wpMix_nil ?_
    clear hne z0 z1 z2 y0 y1 y2
    try dsimp only
    go_step
    go_step
    exact HR.out _ _ _ _ _ _ _ _ _ _ _ _ _ _ _ _ _ _ _ _ _ _ _ _ _ _ _ _ _ _ _ _ _ _ (I2.out.below BF.out) (BX2.out.below BF.out) ⟨BD.out.row, CatOwn.base BD.out.own (show w.heap.size ≤ w2.heap.size from B2.out.size)⟩ (below_trans B2.out BF.out) RI.out.short
end Go.Proofs.Ytmkljmljbbijeaa

/-! flumelaw10.CatalogAll: a turn's second part: cut, by the program and by the document. -/
namespace Go.Proofs.Ytmkljmljbbijeaa
open Go.RowKit

theorem own_apart {w w' : World} {base base' : Nat} {u v : Value} {l k : List Int} (h : OwnI w base u l) (h' : OwnI w' base' v k) (hb : w.heap.size ≤ base') : ∀ j, u.ownBlock = some j → v.ownBlock ≠ some j := fun j hj e => by
  obtain ⟨-, c, hc⟩ := rows_blk h hj
  have := heap_lt hc
  have := (rows_blk h' e).1
  omega
set_option maxHeartbeats 16000000 in
set_option maxRecDepth 100000 in
theorem all_cut (b off k ob tb g n ca cap N cc : Nat) (gen first : Int) (L : List SegV) (ao : Option Addr) (O : COpV) (w : World) (Q : Exit → Act → World → Prop)
    (u1 u2 u4 u7 u8 u9 u10 u11 u12 u13 u14 u15 u16 u17 u18 u19 u20 u21 u22 u23 u24 u25 u26 u27 u28 u29 u30 u31 u32 u33 u34 u35 u36 u37 u38 u39 u40 u41 u42 u43 u44 u45 u46 u47 u48 u49 u50 u51 u52 u53 u54 u55 u56 u57 u58 u59 u60 u61 u62 u63 u64 u65 u66 u67 u68 u69 u70 u71 u72 u73 u74 u75 u76 u77 u78 u79 u80 u81 u82 u83 u84 u85 u86 u87 u88 u89 u90 u91 u92 u93 u94 u95 u96 u97 u98 u99 u100 u101 u102 u103 u104 u105 u106 u107 u108 u109 u110 u111 u112 u113 u114 u115 u116 u117 u118 u119 u120 u121 u122 u123 u124 u125 u126 u127 u128 u129 u130 u131 u132 u133 u134 u135 u136 u137 u138 u139 u140 u141 u142 u143 u144 u145 u146 u147 u148 u149 u150 u151 u152 u153 u154 u155 u156 u157 u158 u159 u160 u161 u162 u163 u164 u165 u166 u167 u168 u169 u170 u171 u172 u173 u174 u175 u176 u177 u178 u179 u180 u181 u182 u183 u184 u185 u186 u187 u188 u189 u190 u191 u192 u193 u194 u195 u196 u197 u198 u199 u200 u201 u202 u203 u204 u205 u206 u207 u208 u209 u210 u211 u212 u213 u214 u215 u216 u217 u218 u219 u220 u221 u222 : Value)
    (hP : ∀ (c : List PanicEntry) (a : Act) (d : Option Tmp) (v : Value) (w : World), Q (.panic c) (a.put d v) w → Q (.panic c) a w)
    (hk : k < N) (I : Hid (AllI b off k ob tb g gen first L ao n ca cap O w))
    (hrest : ∀ (wd : World) (rb db : Nat) (r : CatV) (nums : List Int) (ar ad an al : Option Addr) (cr cd cn cl : Nat) (er : Int) (x139 x140 x141 x142 x143 x144 x145 x146 x147 x148 x149 x150 x151 x152 x153 x154 x155 x156 x157 : Value), AllI b off k ob tb g gen first L ao n ca cap O wd → CatBox wd w.heap.size rb r ar cr → CatBox wd w.heap.size db r ad cd → OwnI wd w.heap.size (.slice an nums.length cn) nums → OwnI wd w.heap.size (.slice al nums.length cl) nums → Below w.heap.size w wd → r.segs.length ≤ 64 → (∀ j, (Value.slice an nums.length cn).ownBlock = some j → (Value.slice al nums.length cl).ownBlock ≠ some j) →
      (fromOf Try.f3 21).wp Try.prog Q ⟨#[.slice (some ⟨b, off, none⟩) N cc, u1, u2, .pointer (some ⟨ob, 0, none⟩), u4, .int .i64 k, .pointer (some ⟨tb, 0, none⟩), u7, u8, u9, u10, u11, u12, u13, u14, u15, u16, u17, u18, u19, .pointer (some ⟨rb, 0, none⟩), .slice an nums.length cn, .int .i64 er, .pointer (some ⟨db, 0, none⟩), .slice al nums.length cl, .int .i64 er, u26, u27, u28, u29, u30, u31, u32, u33, u34, u35, u36, u37, u38, u39, u40, u41, u42, u43, u44, u45, u46, u47, u48, u49, u50, u51, u52, u53, u54, u55, u56, u57, u58, u59, u60, u61, u62, u63, u64, u65, u66, u67, u68, u69, u70, u71, u72, u73, u74, u75, u76, u77, u78, u79, u80, u81, u82, u83, u84, u85, u86, u87, u88, u89, u90, u91, u92, u93, u94, u95, u96, u97, u98, u99, u100, u101, u102, u103, u104, u105, u106, u107, u108, u109, u110, u111, u112, u113, u114, u115, u116, u117, u118, u119, u120, u121, u122, u123, u124, u125, u126, u127, u128, u129, u130, u131, u132, u133, u134, u135, u136, u137, u138, x139, x140, x141, x142, x143, x144, x145, x146, x147, x148, x149, x150, x151, x152, x153, x154, x155, x156, x157, u158, u159, u160, u161, u162, u163, u164, u165, u166, u167, u168, u169, u170, u171, u172, u173, u174, u175, u176, u177, u178, u179, u180, u181, u182, u183, u184, u185, u186, u187, u188, u189, u190, u191, u192, u193, u194, u195, u196, u197, u198, u199, u200, u201, u202, u203, u204, u205, u206, u207, u208, u209, u210, u211, u212, u213, u214, u215, u216, u217, u218, u219, u220, u221, u222], []⟩ wd) :
    (fromOf Try.f3 19).wp Try.prog Q ⟨#[.slice (some ⟨b, off, none⟩) N cc, u1, u2, .pointer (some ⟨ob, 0, none⟩), u4, .int .i64 k, .pointer (some ⟨tb, 0, none⟩), u7, u8, u9, u10, u11, u12, u13, u14, u15, u16, u17, u18, u19, u20, u21, u22, u23, u24, u25, u26, u27, u28, u29, u30, u31, u32, u33, u34, u35, u36, u37, u38, u39, u40, u41, u42, u43, u44, u45, u46, u47, u48, u49, u50, u51, u52, u53, u54, u55, u56, u57, u58, u59, u60, u61, u62, u63, u64, u65, u66, u67, u68, u69, u70, u71, u72, u73, u74, u75, u76, u77, u78, u79, u80, u81, u82, u83, u84, u85, u86, u87, u88, u89, u90, u91, u92, u93, u94, u95, u96, u97, u98, u99, u100, u101, u102, u103, u104, u105, u106, u107, u108, u109, u110, u111, u112, u113, u114, u115, u116, u117, u118, u119, u120, u121, u122, u123, u124, u125, u126, u127, u128, u129, u130, u131, u132, u133, u134, u135, u136, u137, u138, u139, u140, u141, u142, u143, u144, u145, u146, u147, u148, u149, u150, u151, u152, u153, u154, u155, u156, u157, u158, u159, u160, u161, u162, u163, u164, u165, u166, u167, u168, u169, u170, u171, u172, u173, u174, u175, u176, u177, u178, u179, u180, u181, u182, u183, u184, u185, u186, u187, u188, u189, u190, u191, u192, u193, u194, u195, u196, u197, u198, u199, u200, u201, u202, u203, u204, u205, u206, u207, u208, u209, u210, u211, u212, u213, u214, u215, u216, u217, u218, u219, u220, u221, u222], []⟩ w := by
  have HR := Lib.hid hrest
  have HP := Lib.hid hP
  clear hrest hP
  have kz : (k : Int) < (N : Int) := by omega
  have t0 := I.out.t.t0
  have t1 := I.out.t.t1
  have t2 := I.out.t.t2
  have o0 := I.out.t.o0
  conv => arg 2; whnf
  go_wp2_with fail
  refine (cat_cut gen first O.lsn (some ⟨g, 0, none⟩) n cap L w I.out.len I.out.tat I.out.ok.lsn).mono ?_
  rintro e w1 ⟨v, nv, r, nums, er, hI, rfl, hO, hnv, hb1⟩
  obtain ⟨an, cn, rfl, -⟩ := hnv.there
  obtain ⟨ar, cr, rfl, -⟩ := hO.shown
  have bD := below_alloc w1 (.cells #[.int .i64 r.gen, .int .i64 r.first, .slice ar r.segs.length cr] 29)
  have nD := heap_alloc_new w1 (.cells #[.int .i64 r.gen, .int .i64 r.first, .slice ar r.segs.length cr] 29)
  obtain ⟨w2, hw2⟩ : ∃ w2, w1.alloc (.cells #[.int .i64 r.gen, .int .i64 r.first, .slice ar r.segs.length cr] 29) = w2 := ⟨_, rfl⟩
  rw [hw2] at bD nD
  have B2 := Lib.hid (below_trans hb1 bD)
  have I2 := Lib.hid (I.out.below B2.out)
  have BX2 := Lib.hid (show CatBox w2 w.heap.size w1.heap.size r ar cr from ⟨nD, hO.keep bD⟩)
  have RI := Lib.hid hI
  have NV2 := Lib.hid (hnv.keep bD)
  clear hb1 bD nD hO hI hnv t0 t1 t2 o0
  have qt0 : ∀ p : In (TurnR tb ob b (off + k * 3) gen first O (.slice (some ⟨g, 0, none⟩) n cap) (.slice ao n ca)), p.w.cell? ⟨tb, 0, none⟩ = some (.int .i64 gen) := fun p => p.h.t0
  have qt1 : ∀ p : In (TurnR tb ob b (off + k * 3) gen first O (.slice (some ⟨g, 0, none⟩) n cap) (.slice ao n ca)), p.w.cell? ⟨tb, 1, none⟩ = some (.int .i64 first) := fun p => p.h.t1
  have qt2 : ∀ p : In (TurnR tb ob b (off + k * 3) gen first O (.slice (some ⟨g, 0, none⟩) n cap) (.slice ao n ca)), p.w.cell? ⟨tb, 2, none⟩ = some (.slice (some ⟨g, 0, none⟩) n cap) := fun p => p.h.t2
  have qc0 : ∀ p : In (TurnR tb ob b (off + k * 3) gen first O (.slice (some ⟨g, 0, none⟩) n cap) (.slice ao n ca)), p.w.cell? ⟨b, off + k * 3, none⟩ = some (.int .i64 gen) := fun p => p.h.c0
  have qc1 : ∀ p : In (TurnR tb ob b (off + k * 3) gen first O (.slice (some ⟨g, 0, none⟩) n cap) (.slice ao n ca)), p.w.cell? ⟨b, off + k * 3 + 1, none⟩ = some (.int .i64 first) := fun p => p.h.c1
  have qc2 : ∀ p : In (TurnR tb ob b (off + k * 3) gen first O (.slice (some ⟨g, 0, none⟩) n cap) (.slice ao n ca)), p.w.cell? ⟨b, off + k * 3 + 2, none⟩ = some (.slice ao n ca) := fun p => p.h.c2
  have qo0 : ∀ p : In (TurnR tb ob b (off + k * 3) gen first O (.slice (some ⟨g, 0, none⟩) n cap) (.slice ao n ca)), p.w.cell? ⟨ob, 0, none⟩ = some (.int .i64 O.lsn) := fun p => p.h.o0
  have qo1 : ∀ p : In (TurnR tb ob b (off + k * 3) gen first O (.slice (some ⟨g, 0, none⟩) n cap) (.slice ao n ca)), p.w.cell? ⟨ob, 1, none⟩ = some (.int .i64 O.end_) := fun p => p.h.o1
  have qo2 : ∀ p : In (TurnR tb ob b (off + k * 3) gen first O (.slice (some ⟨g, 0, none⟩) n cap) (.slice ao n ca)), p.w.cell? ⟨ob, 2, none⟩ = some (.int .i64 O.size) := fun p => p.h.o2
  have qo3 : ∀ p : In (TurnR tb ob b (off + k * 3) gen first O (.slice (some ⟨g, 0, none⟩) n cap) (.slice ao n ca)), p.w.cell? ⟨ob, 3, none⟩ = some (.int .u32 (bv O.seed)) := fun p => p.h.o3
  try dsimp only
  go_wp2_with fail
  refine wp_region_fork [0, 1, 2, 3, 4, 5] 6 11 [7, 8, 9, 10, 11, 12, 13, 14] [6, 7, 8, 9, 10, 12, 13, 14] (TurnR tb ob b (off + k * 3) gen first O (.slice (some ⟨g, 0, none⟩) n cap) (.slice ao n ca)) (by kernel_rfl) (by kernel_rfl) (fun c a d v w h => HP.out c a d v w h) (I2.out.t.below (below_drew _)) ?_
  intro hne
  simp only [pick, List.map_cons, List.map_nil, List.getD_cons_zero, List.getD_cons_succ]
  repeat (go_big_quiet_step (fail))
  refine wpQuiet_nil ?_
  have I2D := Lib.hid (I2.out.below (below_drew w2))
  refine ⟨?_, ?_⟩
  · refine wpMix_act rfl ?_ rfl
    go_wp2_with fail
    refine (ref_cut gen first O.lsn ao n ca L w2.drew I.out.len I2D.out.at' I.out.ok.lsn).mono ?_
    rintro e w3 ⟨v, lv, r2, nums2, er2, hI2, rfl, hO, hlv, hb3⟩
    obtain ⟨rfl, rfl, rfl⟩ := CutIs.uniq RI.out hI2
    obtain ⟨al, cl, rfl, -⟩ := hlv.there
    have LV := Lib.hid hlv
    obtain ⟨ad, cd, rfl, -⟩ := hO.shown
    have B23 := Lib.hid (below_trans (below_drew w2) hb3)
    have OD := Lib.hid hO
    have hN := heap_alloc_new w3 (.cells #[.int .i64 0, .int .i64 0, .slice none 0 0] 29)
    have z0 := cell_of_row _ _ 0 _ _ _ hN
    have z1 := cell_of_row _ _ 1 _ _ _ hN
    have z2 := cell_of_row _ _ 2 _ _ _ hN
    have y0 := frozen_of_row _ _ 0 _ _ hN
    have y1 := frozen_of_row _ _ 1 _ _ hN
    have y2 := frozen_of_row _ _ 2 _ _ hN
    have BZ := Lib.hid (below_trans B23.out (below_alloc w3 (.cells #[.int .i64 0, .int .i64 0, .slice none 0 0] 29)))
    have BF := Lib.hid (below_trans B23.out (below_alloc w3 (.cells #[.int .i64 r.gen, .int .i64 r.first, .slice ad r.segs.length cd] 29)))
    have BD := Lib.hid (show CatBox (w3.alloc (.cells #[.int .i64 r.gen, .int .i64 r.first, .slice ad r.segs.length cd] 29)) w2.drew.heap.size w3.heap.size r ad cd from ⟨heap_alloc_new _ _, hO.keep (below_alloc _ _)⟩)
    clear hI2 hO hb3 hN hlv
    try dsimp only
    go_wp2_with fail
    refine ⟨⟨⟨_, I2.out.t.below B23.out⟩, rfl⟩, ?_⟩
    refine wpMix_reads 4 _ (by kernel_rfl) ?_
    simp only [List.take_succ_cons, List.take_zero, List.drop_succ_cons, List.drop_zero]
    repeat (go_big_quiet_step (fail))
    refine wpQuiet_nil ?_
    refine wpMix_act rfl ?_ rfl
    go_wp2_with fail
    refine ⟨⟨⟨_, I2.out.t.below BZ.out⟩, rfl⟩, ?_⟩
    refine wpMix_act rfl ?_ rfl
    go_wp2_with fail
    refine ⟨⟨⟨_, I2.out.t.below BF.out⟩, rfl⟩, ?_⟩
    refine wpMix_reads 2 _ (by kernel_rfl) ?_
    simp only [List.take_succ_cons, List.take_zero, List.drop_succ_cons, List.drop_zero]
    repeat (go_big_quiet_step (fail))
    refine wpQuiet_nil ?_
    refine wpMix_nil ?_
    clear hne z0 z1 z2 y0 y1 y2
    try dsimp only
    go_step
    go_step
    exact HR.out _ _ _ _ _ _ _ _ _ _ _ _ _ _ _ _ _ _ _ _ _ _ _ _ _ _ _ _ _ _ _ _ _ (I2.out.below BF.out) (BX2.out.below BF.out) ⟨BD.out.row, CatOwn.base BD.out.own (show w.heap.size ≤ w2.heap.size from B2.out.size)⟩ (OwnI.keep (OwnI.base NV2.out (Nat.le_refl _)) BF.out) (OwnI.base (LV.out.keep (below_alloc _ _)) (show w.heap.size ≤ w2.heap.size from B2.out.size)) (below_trans B2.out BF.out) RI.out.short (own_apart NV2.out LV.out (show w2.heap.size ≤ w2.drew.heap.size from Nat.le_refl _))
  · refine wpMix_act rfl ?_ rfl
    go_wp2_with fail
    have BZ := Lib.hid (below_trans (below_drew w2) (below_alloc w2.drew (.cells #[.int .i64 0, .int .i64 0, .slice none 0 0] 29)))
    have NZ := Lib.hid (heap_alloc_new w2.drew (.cells #[.int .i64 0, .int .i64 0, .slice none 0 0] 29))
    refine ⟨⟨⟨_, I2.out.t.below BZ.out⟩, rfl⟩, ?_⟩
    refine wpMix_act rfl ?_ rfl
    go_wp2_with fail
    refine (ref_cut gen first O.lsn ao n ca L (w2.drew.alloc (.cells #[.int .i64 0, .int .i64 0, .slice none 0 0] 29)) I.out.len (I2.out.below BZ.out).at' I.out.ok.lsn).mono ?_
    rintro e w3 ⟨v, lv, r2, nums2, er2, hI2, rfl, hO, hlv, hb3⟩
    obtain ⟨rfl, rfl, rfl⟩ := CutIs.uniq RI.out hI2
    obtain ⟨al, cl, rfl, -⟩ := hlv.there
    have LV := Lib.hid hlv
    obtain ⟨ad, cd, rfl, -⟩ := hO.shown
    have B23 := Lib.hid (below_trans BZ.out hb3)
    have N3 := Lib.hid (show w3.heap[w2.heap.size]? = some (.cells #[.int .i64 0, .int .i64 0, .slice none 0 0] 29 (0, 0)) from (hb3.block _ (heap_lt NZ.out)).trans NZ.out)
    have OD := Lib.hid hO
    have z0 := cell_of_row _ _ 0 _ _ _ N3.out
    have z1 := cell_of_row _ _ 1 _ _ _ N3.out
    have z2 := cell_of_row _ _ 2 _ _ _ N3.out
    have y0 := frozen_of_row _ _ 0 _ _ N3.out
    have y1 := frozen_of_row _ _ 1 _ _ N3.out
    have y2 := frozen_of_row _ _ 2 _ _ N3.out
    have LZ := Lib.hid (show w2.heap.size < (w2.drew.alloc (.cells #[.int .i64 0, .int .i64 0, .slice none 0 0] 29)).heap.size from heap_lt NZ.out)
    have BF := Lib.hid (show Below w2.heap.size w2 (((w3.setCell ⟨w2.heap.size, 0, none⟩ (.int .i64 r.gen)).setCell ⟨w2.heap.size, 1, none⟩ (.int .i64 r.first)).setCell ⟨w2.heap.size, 2, none⟩ (.slice ad r.segs.length cd)) from put3_below B23.out (Nat.le_refl _) _ _ _)
    have BD := Lib.hid (show CatBox (((w3.setCell ⟨w2.heap.size, 0, none⟩ (.int .i64 r.gen)).setCell ⟨w2.heap.size, 1, none⟩ (.int .i64 r.first)).setCell ⟨w2.heap.size, 2, none⟩ (.slice ad r.segs.length cd)) w2.heap.size w2.heap.size r ad cd from ⟨put3 N3.out _ _ _, CatOwn.base (hO.move fun q hq => put3_off (by have := LZ.out; omega) _ _ _) (Nat.le_of_lt LZ.out)⟩)
    clear hI2 hO hb3 hlv
    try dsimp only
    go_wp2_with fail
    refine ⟨⟨⟨_, I2.out.t.below B23.out⟩, rfl⟩, ?_⟩
    refine wpMix_reads 4 _ (by kernel_rfl) ?_
    simp only [List.take_succ_cons, List.take_zero, List.drop_succ_cons, List.drop_zero]
    repeat (go_big_quiet_step (fail))
    refine wpQuiet_nil ?_
    refine wpMix_act rfl ?_ rfl
    go_wp2_with fail
    refine ⟨⟨⟨_, I2.out.t.below BF.out⟩, rfl⟩, ?_⟩
    refine wpMix_reads 2 _ (by kernel_rfl) ?_
    simp only [List.take_succ_cons, List.take_zero, List.drop_succ_cons, List.drop_zero]
    repeat (go_big_quiet_step (fail))
    refine wpQuiet_nil ?_
    refine wpMix_nil ?_
    clear hne z0 z1 z2 y0 y1 y2
    try dsimp only
    go_step
    go_step
    exact HR.out _ _ _ _ _ _ _ _ _ _ _ _ _ _ _ _ _ _ _ _ _ _ _ _ _ _ _ _ _ _ _ _ _ (I2.out.below BF.out) (BX2.out.below BF.out) ⟨BD.out.row, CatOwn.base BD.out.own (show w.heap.size ≤ w2.heap.size from B2.out.size)⟩ (OwnI.keep (OwnI.base NV2.out (Nat.le_refl _)) BF.out) (OwnI.base (OwnI.move LV.out fun q hq => put3_off (by have := LZ.out; omega) _ _ _) (Nat.le_trans B2.out.size (Nat.le_of_lt LZ.out))) (below_trans B2.out BF.out) RI.out.short (own_apart NV2.out LV.out (Nat.le_of_lt LZ.out))
end Go.Proofs.Ytmkljmljbbijeaa

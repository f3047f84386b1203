/- flumelaw10.CatalogAll: a turn's third part: what was answered is compared, then written over. -/
import Derived.Test.YtmkljmljbbijeaaCatAllA
namespace Go.Proofs.Ytmkljmljbbijeaa
open Go.RowKit

structure BoxR (q o : Nat) (gen first : Int) (v : Value) (w : World) : Prop where
  b0 : w.cell? ⟨q, o, none⟩ = some (.int .i64 gen)
  b1 : w.cell? ⟨q, o + 1, none⟩ = some (.int .i64 first)
  b2 : w.cell? ⟨q, o + 2, none⟩ = some v
theorem BoxR.below {q o : Nat} {gen first : Int} {v : Value} {w w' : World} (h : BoxR q o gen first v w) (hb : Below w.heap.size w w') : BoxR q o gen first v w' := ⟨cell_keep hb h.b0, cell_keep hb h.b1, cell_keep hb h.b2⟩
theorem boxR_row {w : World} {q : Nat} {gen first : Int} {v : Value} (h : w.heap[q]? = some (.cells #[.int .i64 gen, .int .i64 first, v] 29 (0, 0))) : BoxR q 0 gen first v w := ⟨cell_of_row _ _ 0 _ _ _ h, cell_of_row _ _ 1 _ _ _ h, cell_of_row _ _ 2 _ _ _ h⟩
/-- What the drawn comparison's reads lean on. -/
structure RestR (rb db tq uq tb b o : Nat) (r t : CatV) (gen first : Int) (v0 v1 v2 v3 v4 v5 : Value) (w : World) : Prop where
  x0 : BoxR rb 0 r.gen r.first v0 w
  x1 : BoxR db 0 r.gen r.first v1 w
  x2 : BoxR tq 0 t.gen t.first v2 w
  x3 : BoxR uq 0 t.gen t.first v3 w
  x4 : BoxR tb 0 gen first v4 w
  x5 : BoxR b o gen first v5 w
theorem RestR.below {rb db tq uq tb b o : Nat} {r t : CatV} {gen first : Int} {v0 v1 v2 v3 v4 v5 : Value} {w w' : World} (h : RestR rb db tq uq tb b o r t gen first v0 v1 v2 v3 v4 v5 w) (hb : Below w.heap.size w w') : RestR rb db tq uq tb b o r t gen first v0 v1 v2 v3 v4 v5 w' :=
  ⟨h.x0.below hb, h.x1.below hb, h.x2.below hb, h.x3.below hb, h.x4.below hb, h.x5.below hb⟩
theorem CatBox.at {w : World} {base q : Nat} {r : CatV} {ar : Option Addr} {cr : Nat} (h : CatBox w base q r ar cr) : CatAt w (.agg #[.int .i64 r.gen, .int .i64 r.first, .slice ar r.segs.length cr]) r := h.own.at
theorem CatBox.segs {w : World} {base q : Nat} {r : CatV} {ar : Option Addr} {cr : Nat} (h : CatBox w base q r ar cr) : OwnS w base (.slice ar r.segs.length cr) r.segs := by
  obtain ⟨vs, e, ho⟩ := h.own.own
  injection e with e
  injection e with e
  injection e with _ e
  injection e with _ e
  injection e with e _
  rw [e]
  exact ho
theorem CatBox.far {w w' : World} {base q : Nat} {r : CatV} {ar : Option Addr} {cr : Nat} (h : CatBox w base q r ar cr) (hq : w'.heap[q]? = w.heap[q]?) (hs : ∀ j, (Value.slice ar r.segs.length cr).ownBlock = some j → w'.heap[j]? = w.heap[j]?) : CatBox w' base q r ar cr :=
  ⟨hq.trans h.row, ⟨⟨_, rfl, rows_congr h.segs hs⟩, h.own.ok, h.own.few⟩⟩
theorem OwnI.elem {w : World} {base : Nat} {an : Option Addr} {n cn : Nat} {l : List Int} (h : OwnI w base (.slice an n cn) l) {i : Nat} (hi : i < l.length) : ∃ g, an = some ⟨g, 0, none⟩ ∧ base ≤ g ∧ w.cell? ⟨g, i, none⟩ = some (.int .i64 (l.getD i 0)) ∧ w.frozen? ⟨g, i, none⟩ = false := by
  obtain ⟨ao, ca, e, hg⟩ := h.there
  injection e with e
  obtain ⟨g, e2, hb, -, hc, hf⟩ := hg i hi
  exact ⟨g, e.trans e2, hb, hc, hf⟩
theorem OwnI.long {w : World} {base : Nat} {an : Option Addr} {n cn : Nat} {l : List Int} (h : OwnI w base (.slice an n cn) l) : l.length ≤ 9223372036854775807 := by
  rcases h.2 with ⟨-, h0⟩ | ⟨g, cap, cur, -, -, -, hle, hm, -⟩
  · omega
  · unfold maxLen at hm; omega
/-- The numbers that are gone over: those behind the k-th as they were, and nothing else turned. -/
structure GoneI (w : World) (base : Nat) (an : Option Addr) (m cn k : Nat) (nums l : List Int) (wr : World) : Prop where
  len : l.length = m
  same : ∀ i, k ≤ i → l.getD i 0 = nums.getD i 0
  own : OwnI wr base (.slice an m cn) l
  low : Below base w wr
  far : ∀ q c, w.heap[q]? = some c → (Value.slice an m cn).ownBlock ≠ some q → wr.heap[q]? = some c
theorem GoneI.drewN {w : World} {base : Nat} {an : Option Addr} {m cn k : Nat} {nums l : List Int} {wr : World} (h : GoneI w base an m cn k nums l wr) (n : Nat) : GoneI w base an m cn k nums l (wr.drewN n) :=
  ⟨h.len, h.same, h.own.keep (below_drewN _ _), h.low.trans ⟨rfl, rfl, rfl, Nat.le_refl _, fun _ _ => rfl⟩, h.far⟩
theorem getD_set_ne (l : List Int) (k i : Nat) (x : Int) (h : k ≠ i) : (l.set k x).getD i 0 = l.getD i 0 := by
  simp [List.getD_eq_getElem?_getD, List.getElem?_set_ne h]
theorem GoneI.set {w : World} {base g : Nat} {m cn k : Nat} {nums l : List Int} {wr : World} (h : GoneI w base (some ⟨g, 0, none⟩) m cn k nums l wr) (hb : base ≤ g) (x : Int) : GoneI w base (some ⟨g, 0, none⟩) m cn (k + 1) nums (l.set k x) (wr.setCell ⟨g, k, none⟩ (.int .i64 x)) := by
  refine ⟨by rw [List.length_set]; exact h.len, fun i hi => by rw [getD_set_ne _ _ _ _ (by omega)]; exact h.same i (by omega), ?_, h.low.setCell (p := ⟨g, k, none⟩) hb _, fun q c hq hne => ?_⟩
  · have ho := h.own
    unfold OwnI at ho ⊢
    rw [List.length_set]
    rw [h.len] at ho ⊢
    have := ownsRow_set ho (.int .i64 x) (i := k)
    rw [show ints (l.set k x) = (ints l).set k (.int .i64 x) from List.map_set ..]
    exact this
  · exact (set_off (fun e => hne (congrArg some e)) _).trans (h.far q c hq hne)

set_option maxHeartbeats 16000000 in
set_option maxRecDepth 100000 in
theorem all_rest (base b off k ob tb g n ca cap N cc rb db tq uq m : Nat) (gen first er es : Int) (L : List SegV) (ao : Option Addr) (O : COpV) (r t : CatV) (nums : List Int) (ar ad at' au an al : Option Addr) (cr cd ct cu cn cl : Nat) (w : World) (Q : Exit → Act → World → Prop)
    (u1 u2 u4 u7 u8 u9 u10 u11 u12 u13 u14 u15 u26 u27 u28 u29 u30 u31 u32 u33 u34 u35 u36 u37 u38 u39 u40 u41 u42 u43 u44 u45 u46 u47 u48 u49 u50 u51 u52 u53 u54 u55 u56 u57 u58 u59 u60 u61 u62 u63 u64 u65 u66 u67 u68 u69 u70 u71 u72 u73 u74 u75 u76 u77 u78 u79 u80 u81 u82 u83 u84 u85 u86 u87 u88 u89 u90 u91 u92 u93 u94 u95 u96 u97 u98 u99 u100 u101 u102 u103 u104 u105 u106 u107 u108 u109 u110 u111 u112 u113 u114 u115 u116 u117 u118 u119 u120 u121 u122 u123 u124 u125 u126 u127 u128 u129 u130 u131 u132 u133 u134 u135 u136 u137 u138 u139 u140 u141 u142 u143 u144 u145 u146 u147 u148 u149 u150 u151 u152 u153 u154 u155 u156 u157 u158 u159 u160 u161 u162 u163 u164 u165 u166 u167 u168 u169 u170 u171 u172 u173 u174 u175 u176 u177 u178 u179 u180 u181 u182 u183 u184 u185 u186 u187 u188 u189 u190 u191 u192 u193 u194 u195 u196 u197 u198 u199 u200 u201 u202 u203 u204 u205 u206 u207 u208 u209 u210 u211 u212 u213 u214 u215 u216 u217 u218 u219 u220 u221 u222 : Value)
    (hP : ∀ (c : List PanicEntry) (a : Act) (d : Option Tmp) (v : Value) (w : World), Q (.panic c) (a.put d v) w → Q (.panic c) a w)
    (hk : k < N) (hbase : base ≤ w.heap.size) (I : Hid (AllI b off k ob tb g gen first L ao n ca cap O w))
    (R1 : Hid (CatBox w base rb r ar cr)) (R2 : Hid (CatBox w base db r ad cd)) (R3 : Hid (CatBox w base tq t at' ct)) (R4 : Hid (CatBox w base uq t au cu))
    (G : Hid (OwnI w base (.slice an m cn) nums)) (M : Hid (OwnI w base (.slice al m cl) nums)) (HM : Hid (nums.length = m)) (S1 : r.segs.length ≤ 64) (S2 : t.segs.length ≤ 64)
    (A1 : Hid (∀ j, (Value.slice an m cn).ownBlock = some j → (Value.slice al m cl).ownBlock ≠ some j))
    (A2 : Hid (∀ j, (Value.slice ar r.segs.length cr).ownBlock = some j → (Value.slice at' t.segs.length ct).ownBlock ≠ some j))
    (hQ : ∀ (wd : World) (x4 x26 x158 x159 x160 x161 x162 x163 x164 x165 x166 x167 x168 x169 x170 x171 x172 x173 x174 x175 x176 x177 x178 x179 x180 x181 x182 x183 x184 x185 x186 x187 x188 x189 x190 x191 x192 x193 x194 x195 x196 x197 x198 x199 x200 x201 x202 x203 x204 x205 x206 x207 x208 x209 x210 x211 x212 x213 x214 x215 : Value), Below base w wd → Q .normal ⟨#[.slice (some ⟨b, off, none⟩) N cc, u1, u2, .pointer (some ⟨ob, 0, none⟩), x4, .int .i64 k, .pointer (some ⟨tb, 0, none⟩), u7, u8, u9, u10, u11, u12, u13, u14, u15, .pointer (some ⟨rb, 0, none⟩), .int .i64 er, .pointer (some ⟨db, 0, none⟩), .int .i64 er, .pointer (some ⟨tq, 0, none⟩), .slice an m cn, .int .i64 es, .pointer (some ⟨uq, 0, none⟩), .slice al m cl, .int .i64 es, x26, u27, u28, u29, u30, u31, u32, u33, u34, u35, u36, u37, u38, u39, u40, u41, u42, u43, u44, u45, u46, u47, u48, u49, u50, u51, u52, u53, u54, u55, u56, u57, u58, u59, u60, u61, u62, u63, u64, u65, u66, u67, u68, u69, u70, u71, u72, u73, u74, u75, u76, u77, u78, u79, u80, u81, u82, u83, u84, u85, u86, u87, u88, u89, u90, u91, u92, u93, u94, u95, u96, u97, u98, u99, u100, u101, u102, u103, u104, u105, u106, u107, u108, u109, u110, u111, u112, u113, u114, u115, u116, u117, u118, u119, u120, u121, u122, u123, u124, u125, u126, u127, u128, u129, u130, u131, u132, u133, u134, u135, u136, u137, u138, u139, u140, u141, u142, u143, u144, u145, u146, u147, u148, u149, u150, u151, u152, u153, u154, u155, u156, u157, x158, x159, x160, x161, x162, x163, x164, x165, x166, x167, x168, x169, x170, x171, x172, x173, x174, x175, x176, x177, x178, x179, x180, x181, x182, x183, x184, x185, x186, x187, x188, x189, x190, x191, x192, x193, x194, x195, x196, x197, x198, x199, x200, x201, x202, x203, x204, x205, x206, x207, x208, x209, x210, x211, x212, x213, x214, x215, u216, u217, u218, u219, u220, u221, u222], []⟩ wd) :
    (fromOf Try.f3 21).wp Try.prog Q ⟨#[.slice (some ⟨b, off, none⟩) N cc, u1, u2, .pointer (some ⟨ob, 0, none⟩), u4, .int .i64 k, .pointer (some ⟨tb, 0, none⟩), u7, u8, u9, u10, u11, u12, u13, u14, u15, .pointer (some ⟨rb, 0, none⟩), .int .i64 er, .pointer (some ⟨db, 0, none⟩), .int .i64 er, .pointer (some ⟨tq, 0, none⟩), .slice an m cn, .int .i64 es, .pointer (some ⟨uq, 0, none⟩), .slice al m cl, .int .i64 es, u26, u27, u28, u29, u30, u31, u32, u33, u34, u35, u36, u37, u38, u39, u40, u41, u42, u43, u44, u45, u46, u47, u48, u49, u50, u51, u52, u53, u54, u55, u56, u57, u58, u59, u60, u61, u62, u63, u64, u65, u66, u67, u68, u69, u70, u71, u72, u73, u74, u75, u76, u77, u78, u79, u80, u81, u82, u83, u84, u85, u86, u87, u88, u89, u90, u91, u92, u93, u94, u95, u96, u97, u98, u99, u100, u101, u102, u103, u104, u105, u106, u107, u108, u109, u110, u111, u112, u113, u114, u115, u116, u117, u118, u119, u120, u121, u122, u123, u124, u125, u126, u127, u128, u129, u130, u131, u132, u133, u134, u135, u136, u137, u138, u139, u140, u141, u142, u143, u144, u145, u146, u147, u148, u149, u150, u151, u152, u153, u154, u155, u156, u157, u158, u159, u160, u161, u162, u163, u164, u165, u166, u167, u168, u169, u170, u171, u172, u173, u174, u175, u176, u177, u178, u179, u180, u181, u182, u183, u184, u185, u186, u187, u188, u189, u190, u191, u192, u193, u194, u195, u196, u197, u198, u199, u200, u201, u202, u203, u204, u205, u206, u207, u208, u209, u210, u211, u212, u213, u214, u215, u216, u217, u218, u219, u220, u221, u222], []⟩ w := by
  have HQ := Lib.hid hQ
  have HP := Lib.hid hP
  have HB0 := Lib.hid hbase
  have HS1 := Lib.hid S1
  have HS2 := Lib.hid S2
  clear hQ hP hbase S1 S2
  have kz : (k : Int) < (N : Int) := by omega
  have RR := Lib.hid (show RestR rb db tq uq tb b (off + k * 3) r t gen first (.slice ar r.segs.length cr) (.slice ad r.segs.length cd) (.slice at' t.segs.length ct) (.slice au t.segs.length cu) (.slice (some ⟨g, 0, none⟩) n cap) (.slice ao n ca) w from ⟨boxR_row R1.out.row, boxR_row R2.out.row, boxR_row R3.out.row, boxR_row R4.out.row, boxR_row I.out.box, ⟨I.out.e0, I.out.e1, I.out.e2⟩⟩)
  have q00 : ∀ p : In (RestR rb db tq uq tb b (off + k * 3) r t gen first (.slice ar r.segs.length cr) (.slice ad r.segs.length cd) (.slice at' t.segs.length ct) (.slice au t.segs.length cu) (.slice (some ⟨g, 0, none⟩) n cap) (.slice ao n ca)), p.w.cell? ⟨rb, 0, none⟩ = some (.int .i64 r.gen) := fun p => p.h.x0.b0
  have q01 : ∀ p : In (RestR rb db tq uq tb b (off + k * 3) r t gen first (.slice ar r.segs.length cr) (.slice ad r.segs.length cd) (.slice at' t.segs.length ct) (.slice au t.segs.length cu) (.slice (some ⟨g, 0, none⟩) n cap) (.slice ao n ca)), p.w.cell? ⟨rb, 1, none⟩ = some (.int .i64 r.first) := fun p => p.h.x0.b1
  have q02 : ∀ p : In (RestR rb db tq uq tb b (off + k * 3) r t gen first (.slice ar r.segs.length cr) (.slice ad r.segs.length cd) (.slice at' t.segs.length ct) (.slice au t.segs.length cu) (.slice (some ⟨g, 0, none⟩) n cap) (.slice ao n ca)), p.w.cell? ⟨rb, 2, none⟩ = some (.slice ar r.segs.length cr) := fun p => p.h.x0.b2
  have q10 : ∀ p : In (RestR rb db tq uq tb b (off + k * 3) r t gen first (.slice ar r.segs.length cr) (.slice ad r.segs.length cd) (.slice at' t.segs.length ct) (.slice au t.segs.length cu) (.slice (some ⟨g, 0, none⟩) n cap) (.slice ao n ca)), p.w.cell? ⟨db, 0, none⟩ = some (.int .i64 r.gen) := fun p => p.h.x1.b0
  have q11 : ∀ p : In (RestR rb db tq uq tb b (off + k * 3) r t gen first (.slice ar r.segs.length cr) (.slice ad r.segs.length cd) (.slice at' t.segs.length ct) (.slice au t.segs.length cu) (.slice (some ⟨g, 0, none⟩) n cap) (.slice ao n ca)), p.w.cell? ⟨db, 1, none⟩ = some (.int .i64 r.first) := fun p => p.h.x1.b1
  have q12 : ∀ p : In (RestR rb db tq uq tb b (off + k * 3) r t gen first (.slice ar r.segs.length cr) (.slice ad r.segs.length cd) (.slice at' t.segs.length ct) (.slice au t.segs.length cu) (.slice (some ⟨g, 0, none⟩) n cap) (.slice ao n ca)), p.w.cell? ⟨db, 2, none⟩ = some (.slice ad r.segs.length cd) := fun p => p.h.x1.b2
  have q20 : ∀ p : In (RestR rb db tq uq tb b (off + k * 3) r t gen first (.slice ar r.segs.length cr) (.slice ad r.segs.length cd) (.slice at' t.segs.length ct) (.slice au t.segs.length cu) (.slice (some ⟨g, 0, none⟩) n cap) (.slice ao n ca)), p.w.cell? ⟨tq, 0, none⟩ = some (.int .i64 t.gen) := fun p => p.h.x2.b0
  have q21 : ∀ p : In (RestR rb db tq uq tb b (off + k * 3) r t gen first (.slice ar r.segs.length cr) (.slice ad r.segs.length cd) (.slice at' t.segs.length ct) (.slice au t.segs.length cu) (.slice (some ⟨g, 0, none⟩) n cap) (.slice ao n ca)), p.w.cell? ⟨tq, 1, none⟩ = some (.int .i64 t.first) := fun p => p.h.x2.b1
  have q22 : ∀ p : In (RestR rb db tq uq tb b (off + k * 3) r t gen first (.slice ar r.segs.length cr) (.slice ad r.segs.length cd) (.slice at' t.segs.length ct) (.slice au t.segs.length cu) (.slice (some ⟨g, 0, none⟩) n cap) (.slice ao n ca)), p.w.cell? ⟨tq, 2, none⟩ = some (.slice at' t.segs.length ct) := fun p => p.h.x2.b2
  have q30 : ∀ p : In (RestR rb db tq uq tb b (off + k * 3) r t gen first (.slice ar r.segs.length cr) (.slice ad r.segs.length cd) (.slice at' t.segs.length ct) (.slice au t.segs.length cu) (.slice (some ⟨g, 0, none⟩) n cap) (.slice ao n ca)), p.w.cell? ⟨uq, 0, none⟩ = some (.int .i64 t.gen) := fun p => p.h.x3.b0
  have q31 : ∀ p : In (RestR rb db tq uq tb b (off + k * 3) r t gen first (.slice ar r.segs.length cr) (.slice ad r.segs.length cd) (.slice at' t.segs.length ct) (.slice au t.segs.length cu) (.slice (some ⟨g, 0, none⟩) n cap) (.slice ao n ca)), p.w.cell? ⟨uq, 1, none⟩ = some (.int .i64 t.first) := fun p => p.h.x3.b1
  have q32 : ∀ p : In (RestR rb db tq uq tb b (off + k * 3) r t gen first (.slice ar r.segs.length cr) (.slice ad r.segs.length cd) (.slice at' t.segs.length ct) (.slice au t.segs.length cu) (.slice (some ⟨g, 0, none⟩) n cap) (.slice ao n ca)), p.w.cell? ⟨uq, 2, none⟩ = some (.slice au t.segs.length cu) := fun p => p.h.x3.b2
  have q40 : ∀ p : In (RestR rb db tq uq tb b (off + k * 3) r t gen first (.slice ar r.segs.length cr) (.slice ad r.segs.length cd) (.slice at' t.segs.length ct) (.slice au t.segs.length cu) (.slice (some ⟨g, 0, none⟩) n cap) (.slice ao n ca)), p.w.cell? ⟨tb, 0, none⟩ = some (.int .i64 gen) := fun p => p.h.x4.b0
  have q41 : ∀ p : In (RestR rb db tq uq tb b (off + k * 3) r t gen first (.slice ar r.segs.length cr) (.slice ad r.segs.length cd) (.slice at' t.segs.length ct) (.slice au t.segs.length cu) (.slice (some ⟨g, 0, none⟩) n cap) (.slice ao n ca)), p.w.cell? ⟨tb, 1, none⟩ = some (.int .i64 first) := fun p => p.h.x4.b1
  have q42 : ∀ p : In (RestR rb db tq uq tb b (off + k * 3) r t gen first (.slice ar r.segs.length cr) (.slice ad r.segs.length cd) (.slice at' t.segs.length ct) (.slice au t.segs.length cu) (.slice (some ⟨g, 0, none⟩) n cap) (.slice ao n ca)), p.w.cell? ⟨tb, 2, none⟩ = some (.slice (some ⟨g, 0, none⟩) n cap) := fun p => p.h.x4.b2
  have q50 : ∀ p : In (RestR rb db tq uq tb b (off + k * 3) r t gen first (.slice ar r.segs.length cr) (.slice ad r.segs.length cd) (.slice at' t.segs.length ct) (.slice au t.segs.length cu) (.slice (some ⟨g, 0, none⟩) n cap) (.slice ao n ca)), p.w.cell? ⟨b, off + k * 3, none⟩ = some (.int .i64 gen) := fun p => p.h.x5.b0
  have q51 : ∀ p : In (RestR rb db tq uq tb b (off + k * 3) r t gen first (.slice ar r.segs.length cr) (.slice ad r.segs.length cd) (.slice at' t.segs.length ct) (.slice au t.segs.length cu) (.slice (some ⟨g, 0, none⟩) n cap) (.slice ao n ca)), p.w.cell? ⟨b, off + k * 3 + 1, none⟩ = some (.int .i64 first) := fun p => p.h.x5.b1
  have q52 : ∀ p : In (RestR rb db tq uq tb b (off + k * 3) r t gen first (.slice ar r.segs.length cr) (.slice ad r.segs.length cd) (.slice at' t.segs.length ct) (.slice au t.segs.length cu) (.slice (some ⟨g, 0, none⟩) n cap) (.slice ao n ca)), p.w.cell? ⟨b, off + k * 3 + 2, none⟩ = some (.slice ao n ca) := fun p => p.h.x5.b2
  conv => arg 2; whnf
  go_wp2_with fail
  refine wp_region_mixed [0, 1, 2, 3, 4, 5, 6, 7, 8, 9, 10, 11, 12, 13, 14, 15, 16, 17, 18, 19, 20, 21, 22, 23, 24, 25, 26, 27, 28, 29, 30, 31, 32, 33, 34, 35] (RestR rb db tq uq tb b (off + k * 3) r t gen first (.slice ar r.segs.length cr) (.slice ad r.segs.length cd) (.slice at' t.segs.length ct) (.slice au t.segs.length cu) (.slice (some ⟨g, 0, none⟩) n cap) (.slice ao n ca)) (by kernel_rfl) (by kernel_rfl) (fun c a d v w h => HP.out c a d v w h) (RR.out.below (below_drew _)) ?_
  intro hne
  simp only [pick, List.map_cons, List.map_nil, List.getD_cons_zero, List.getD_cons_succ]
  refine wpMix_reads 2 _ (by kernel_rfl) ?_
  simp only [List.take_succ_cons, List.take_zero, List.drop_succ_cons, List.drop_zero]
  repeat (go_big_quiet_step (fail))
  refine wpQuiet_nil ?_
  refine wpMix_act rfl ?_ rfl
  try dsimp only
  go_wp2_with fail
  refine (cat_eq r.gen r.first r.gen r.first ar ad _ _ cr cd r.segs r.segs w.drew rfl rfl (R1.out.at.below (below_drew _)) (R2.out.at.below (below_drew _)) true (by simp)).mono ?_
  rintro e w1 ⟨rfl, hb1⟩
  have B1 := Lib.hid (below_trans (below_drew w) hb1)
  clear hb1
  try dsimp only
  go_wp2_with fail
  refine ⟨⟨⟨_, RR.out.below B1.out⟩, rfl⟩, ?_⟩
  refine wpMix_reads 9 _ (by kernel_rfl) ?_
  simp only [List.take_succ_cons, List.take_zero, List.drop_succ_cons, List.drop_zero]
  repeat (go_big_quiet_step (fail))
  refine wpQuiet_nil ?_
  refine wpMix_act rfl ?_ rfl
  try dsimp only
  go_wp2_with fail
  refine (cat_eq t.gen t.first t.gen t.first at' au _ _ ct cu t.segs t.segs w1 rfl rfl (R3.out.at.below B1.out) (R4.out.at.below B1.out) true (by simp)).mono ?_
  rintro e w2 ⟨rfl, hb2⟩
  have B2 := Lib.hid (below_trans B1.out hb2)
  clear hb2
  try dsimp only
  go_wp2_with fail
  refine ⟨⟨⟨_, RR.out.below B2.out⟩, rfl⟩, ?_⟩
  refine wpMix_reads 20 _ (by kernel_rfl) ?_
  simp only [List.take_succ_cons, List.take_zero, List.drop_succ_cons, List.drop_zero]
  repeat (go_big_quiet_step (fail))
  refine wpQuiet_nil ?_
  refine wpMix_act rfl ?_ rfl
  try dsimp only
  go_wp2_with fail
  have I2 := Lib.hid (I.out.below B2.out)
  refine (kept_walk gen first g n cap ca ao L w2 I.out.len (by have := I.out.few; omega) I.out.room I2.out.tat I2.out.at' I2.out.mark).mono ?_
  rintro e w3 ⟨rfl, hb3⟩
  have B3 := Lib.hid (below_trans B2.out hb3)
  clear hb3
  try dsimp only
  go_wp2_with fail
  refine ⟨⟨⟨_, RR.out.below B3.out⟩, rfl⟩, ?_⟩
  refine wpMix_reads 2 _ (by kernel_rfl) ?_
  simp only [List.take_succ_cons, List.take_zero, List.drop_succ_cons, List.drop_zero]
  repeat (go_big_quiet_step (fail))
  refine wpQuiet_nil ?_
  refine wpMix_nil ?_
  clear hne q00 q01 q02 q10 q11 q12 q20 q21 q22 q30 q31 q32 q40 q41 q42 q50 q51 q52
  try dsimp only
  have G3 := Lib.hid (show GoneI w base an m cn 0 nums nums w3 from ⟨HM.out, fun _ _ => rfl, G.out.keep B3.out, B3.out.mono HB0.out, fun q c hq _ => (B3.out.block q (heap_lt hq)).trans hq⟩)
  have mz : (m : Int) ≤ 9223372036854775807 := by have := G.out.long; have := HM.out; omega
  go_wp2_with fail
  go_loopw [26] (fun i wr => ∃ (j : Nat) (l : List Int), j ≤ m ∧ i = .int .i64 j ∧ Hid (GoneI w base an m cn j nums l wr)) (fun i _ => m - (intOf i).toNat)
  case atStart => exact ⟨0, nums, by omega, rfl, G3⟩
  case round =>
    clear G3
    obtain ⟨j, l, hj, rfl, HG⟩ := hrel
    by_cases hlt : j < m
    · obtain ⟨ga, rfl, hga, c0, z0⟩ := HG.out.own.elem (i := j) (by have := HG.out.len; omega)
      obtain ⟨gl, rfl, -, c1, -⟩ := M.out.elem (i := j) (by have := HM.out; omega)
      obtain ⟨cl0, hcl0⟩ := (rows_blk M.out (g := gl) rfl).2
      have d1 := (World.cell?_of_block (a := ⟨gl, j, none⟩) ((HG.out.far gl _ hcl0 (fun e => A1.out gl e rfl)).trans hcl0.symm)).trans c1
      rw [HG.out.same j (Nat.le_refl _)] at c0
      have GA := Lib.hid hga
      clear c1 hcl0 hga
      go_wp2_with fail
      go_quiet (fail)
      go_wp2_with fail
      go_roundw
      case rel => exact ⟨j + 1, l.set j (-1), by omega, by go_num, (HG.out.drewN nq).set GA.out (-1)⟩
      case measure => simp [intOf]; omega
    · have hge : (m : Int) ≤ (j : Int) := by omega
      have BX : ∀ {q : Nat} {v0 v1 v2 : Value}, w.heap[q]? = some (.cells #[v0, v1, v2] 29 (0, 0)) → wr.heap[q]? = w.heap[q]? := fun {q v0 v1 v2} hq => (HG.out.far q _ hq (fun e => by
        obtain ⟨-, c, hc⟩ := rows_blk G.out e
        rw [hq] at hc; simp at hc)).trans hq.symm
      have SX : ∀ {v : Value} {l : List SegV}, OwnS w base v l → ∀ q, v.ownBlock = some q → wr.heap[q]? = w.heap[q]? := fun {v l} ho q hq => by
        obtain ⟨-, c, hc⟩ := rows_blk ho hq
        exact (HG.out.far q _ hc (fun e => by
          obtain ⟨-, c', hc'⟩ := rows_blk G.out e
          rw [hc] at hc'; simp at hc')).trans hc.symm
      have P1 := Lib.hid (R1.out.far (BX R1.out.row) (SX R1.out.segs))
      have P3 := Lib.hid (R3.out.far (BX R3.out.row) (SX R3.out.segs))
      have LO := Lib.hid HG.out.low
      have y0 := (boxR_row P1.out.row).b0
      have y1 := (boxR_row P1.out.row).b1
      have y2 := (boxR_row P1.out.row).b2
      clear BX SX HG
      go_wp2_with fail
      refine (spoil_walk r.gen r.first ar _ cr base r.segs wr rfl (by have := HS1.out; omega) (Nat.le_trans HB0.out LO.out.size) P1.out.segs P1.out.own.ok.segs).mono ?_
      rintro e w5 ⟨rfl, hb5, hf5⟩
      have P5 := Lib.hid (P3.out.far (w' := w5) ((hf5 tq _ P3.out.row (fun e => by
        obtain ⟨-, c, hc⟩ := rows_blk P1.out.segs e
        rw [P3.out.row] at hc; simp at hc)).trans P3.out.row.symm) (fun j hj => by
        obtain ⟨-, c, hc⟩ := rows_blk P3.out.segs hj
        exact (hf5 j _ hc (fun e => A2.out j e hj)).trans hc.symm))
      have L5 := Lib.hid (LO.out.trans hb5)
      clear hb5 hf5 y0 y1 y2
      have y0 := (boxR_row P5.out.row).b0
      have y1 := (boxR_row P5.out.row).b1
      have y2 := (boxR_row P5.out.row).b2
      go_wp2_with fail
      refine (spoil_walk t.gen t.first at' _ ct base t.segs w5 rfl (by have := HS2.out; omega) (Nat.le_trans HB0.out L5.out.size) P5.out.segs P5.out.own.ok.segs).mono ?_
      rintro e w6 ⟨rfl, hb6, -⟩
      have L6 := Lib.hid (L5.out.trans hb6)
      clear hb6 y0 y1 y2
      try dsimp only
      go_wp2_with fail
      exact HQ.out _ _ _ _ _ _ _ _ _ _ _ _ _ _ _ _ _ _ _ _ _ _ _ _ _ _ _ _ _ _ _ _ _ _ _ _ _ _ _ _ _ _ _ _ _ _ _ _ _ _ _ _ _ _ _ _ _ _ _ _ _ L6.out
end Go.Proofs.Ytmkljmljbbijeaa

/-! flumelaw10.CatalogAll: a round's two turns, and what is looked at behind them. -/
namespace Go.Proofs.Ytmkljmljbbijeaa
open Go.RowKit

set_option maxHeartbeats 16000000 in
set_option maxRecDepth 100000 in
theorem all_turns (b off k ob tb g n ca cap N cc : Nat) (gen first : Int) (L : List SegV) (ao : Option Addr) (O : COpV) (w : World) (Q : Exit → Act → World → Prop)
    (u1 u2 u4 u7 u8 u9 u10 u11 u12 u13 u14 u15 u16 u17 u18 u19 u20 u21 u22 u23 u24 u25 u26 u27 u28 u29 u30 u31 u32 u33 u34 u35 u36 u37 u38 u39 u40 u41 u42 u43 u44 u45 u46 u47 u48 u49 u50 u51 u52 u53 u54 u55 u56 u57 u58 u59 u60 u61 u62 u63 u64 u65 u66 u67 u68 u69 u70 u71 u72 u73 u74 u75 u76 u77 u78 u79 u80 u81 u82 u83 u84 u85 u86 u87 u88 u89 u90 u91 u92 u93 u94 u95 u96 u97 u98 u99 u100 u101 u102 u103 u104 u105 u106 u107 u108 u109 u110 u111 u112 u113 u114 u115 u116 u117 u118 u119 u120 u121 u122 u123 u124 u125 u126 u127 u128 u129 u130 u131 u132 u133 u134 u135 u136 u137 u138 u139 u140 u141 u142 u143 u144 u145 u146 u147 u148 u149 u150 u151 u152 u153 u154 u155 u156 u157 u158 u159 u160 u161 u162 u163 u164 u165 u166 u167 u168 u169 u170 u171 u172 u173 u174 u175 u176 u177 u178 u179 u180 u181 u182 u183 u184 u185 u186 u187 u188 u189 u190 u191 u192 u193 u194 u195 u196 u197 u198 u199 u200 u201 u202 u203 u204 u205 u206 u207 u208 u209 u210 u211 u212 u213 u214 u215 u216 u217 u218 u219 u220 u221 u222 : Value)
    (hP : ∀ (c : List PanicEntry) (a : Act) (d : Option Tmp) (v : Value) (w : World), Q (.panic c) (a.put d v) w → Q (.panic c) a w)
    (hk : k < N) (I : Hid (AllI b off k ob tb g gen first L ao n ca cap O w))
    (hQ : ∀ (wd : World) (x4 x15 x16 x17 x18 x19 x20 x21 x22 x23 x24 x25 x26 x110 x111 x112 x113 x114 x115 x116 x117 x118 x119 x120 x121 x122 x123 x124 x125 x126 x127 x128 x129 x130 x131 x132 x133 x134 x135 x136 x137 x138 x139 x140 x141 x142 x143 x144 x145 x146 x147 x148 x149 x150 x151 x152 x153 x154 x155 x156 x157 x158 x159 x160 x161 x162 x163 x164 x165 x166 x167 x168 x169 x170 x171 x172 x173 x174 x175 x176 x177 x178 x179 x180 x181 x182 x183 x184 x185 x186 x187 x188 x189 x190 x191 x192 x193 x194 x195 x196 x197 x198 x199 x200 x201 x202 x203 x204 x205 x206 x207 x208 x209 x210 x211 x212 x213 x214 x215 x216 x217 x218 x219 x220 x221 x222 : Value), Below w.heap.size w wd → Q .normal ⟨#[.slice (some ⟨b, off, none⟩) N cc, u1, u2, .pointer (some ⟨ob, 0, none⟩), x4, .int .i64 k, .pointer (some ⟨tb, 0, none⟩), u7, u8, u9, u10, u11, u12, u13, u14, x15, x16, x17, x18, x19, x20, x21, x22, x23, x24, x25, x26, u27, u28, u29, u30, u31, u32, u33, u34, u35, u36, u37, u38, u39, u40, u41, u42, u43, u44, u45, u46, u47, u48, u49, u50, u51, u52, u53, u54, u55, u56, u57, u58, u59, u60, u61, u62, u63, u64, u65, u66, u67, u68, u69, u70, u71, u72, u73, u74, u75, u76, u77, u78, u79, u80, u81, u82, u83, u84, u85, u86, u87, u88, u89, u90, u91, u92, u93, u94, u95, u96, u97, u98, u99, u100, u101, u102, u103, u104, u105, u106, u107, u108, u109, x110, x111, x112, x113, x114, x115, x116, x117, x118, x119, x120, x121, x122, x123, x124, x125, x126, x127, x128, x129, x130, x131, x132, x133, x134, x135, x136, x137, x138, x139, x140, x141, x142, x143, x144, x145, x146, x147, x148, x149, x150, x151, x152, x153, x154, x155, x156, x157, x158, x159, x160, x161, x162, x163, x164, x165, x166, x167, x168, x169, x170, x171, x172, x173, x174, x175, x176, x177, x178, x179, x180, x181, x182, x183, x184, x185, x186, x187, x188, x189, x190, x191, x192, x193, x194, x195, x196, x197, x198, x199, x200, x201, x202, x203, x204, x205, x206, x207, x208, x209, x210, x211, x212, x213, x214, x215, x216, x217, x218, x219, x220, x221, x222], []⟩ wd) :
    (fromOf Try.f3 14).wp Try.prog Q ⟨#[.slice (some ⟨b, off, none⟩) N cc, u1, u2, .pointer (some ⟨ob, 0, none⟩), u4, .int .i64 k, .pointer (some ⟨tb, 0, none⟩), u7, u8, u9, u10, u11, u12, u13, u14, u15, u16, u17, u18, u19, u20, u21, u22, u23, u24, u25, u26, u27, u28, u29, u30, u31, u32, u33, u34, u35, u36, u37, u38, u39, u40, u41, u42, u43, u44, u45, u46, u47, u48, u49, u50, u51, u52, u53, u54, u55, u56, u57, u58, u59, u60, u61, u62, u63, u64, u65, u66, u67, u68, u69, u70, u71, u72, u73, u74, u75, u76, u77, u78, u79, u80, u81, u82, u83, u84, u85, u86, u87, u88, u89, u90, u91, u92, u93, u94, u95, u96, u97, u98, u99, u100, u101, u102, u103, u104, u105, u106, u107, u108, u109, u110, u111, u112, u113, u114, u115, u116, u117, u118, u119, u120, u121, u122, u123, u124, u125, u126, u127, u128, u129, u130, u131, u132, u133, u134, u135, u136, u137, u138, u139, u140, u141, u142, u143, u144, u145, u146, u147, u148, u149, u150, u151, u152, u153, u154, u155, u156, u157, u158, u159, u160, u161, u162, u163, u164, u165, u166, u167, u168, u169, u170, u171, u172, u173, u174, u175, u176, u177, u178, u179, u180, u181, u182, u183, u184, u185, u186, u187, u188, u189, u190, u191, u192, u193, u194, u195, u196, u197, u198, u199, u200, u201, u202, u203, u204, u205, u206, u207, u208, u209, u210, u211, u212, u213, u214, u215, u216, u217, u218, u219, u220, u221, u222], []⟩ w := by
  have HQ := Lib.hid hQ
  have HP := Lib.hid hP
  clear hQ hP
  conv => arg 2; whnf
  go_wp2_with fail
  go_loopw [15] (fun i wr => ∃ j : Nat, j ≤ 2 ∧ i = .int .i64 j ∧ Hid (Below w.heap.size w wr)) (fun i _ => 2 - (intOf i).toNat)
  case atStart => exact ⟨0, by omega, rfl, Lib.hid (Below.refl _ _)⟩
  case round =>
    obtain ⟨j, hj, rfl, HB⟩ := hrel
    have I1 := Lib.hid (I.out.below HB.out)
    by_cases hlt : j < 2
    · go_upto_if 111 with (fail)
      go_step
      go_step
      go_step
      go_step
      go_step
      go_step
      refine all_roll b off k ob tb g n ca cap N cc gen first L ao O wr _ _ _ _ _ _ _ _ _ _ _ _ _ _ _ _ _ _ _ _ _ _ _ _ _ _ _ _ _ _ _ _ _ _ _ _ _ _ _ _ _ _ _ _ _ _ _ _ _ _ _ _ _ _ _ _ _ _ _ _ _ _ _ _ _ _ _ _ _ _ _ _ _ _ _ _ _ _ _ _ _ _ _ _ _ _ _ _ _ _ _ _ _ _ _ _ _ _ _ _ _ _ _ _ _ _ _ _ _ _ _ _ _ _ _ _ _ _ _ _ _ _ _ _ _ _ _ _ _ _ _ _ _ _ _ _ _ _ _ _ _ _ _ _ _ _ _ _ _ _ _ _ _ _ _ _ _ _ _ _ _ _ _ _ _ _ _ _ _ _ _ _ _ _ _ _ _ _ _ _ _ _ _ _ _ _ _ _ _ _ _ _ _ _ _ _ _ _ _ _ _ _ _ _ _ _ _ _ _ _ _ _ _ _ _ _ _ _ _ _ ?hp hk I1 ?_
      case hp => exact fun c a d v w h => HP.out c a d v w h
      · intro w3 rb db r ar ad cr cd er x114 x115 x116 x117 x118 x119 x120 x121 x122 x123 x124 x125 x126 x127 x128 x129 x130 x131 x132 x133 x134 x135 x136 x137 x138 i3 b1 b2 hb3 s1
        have I3 := Lib.hid i3
        have R1 := Lib.hid b1
        have R2 := Lib.hid b2
        have B3 := Lib.hid hb3
        have S1 := Lib.hid s1
        clear i3 b1 b2 hb3 s1
        refine all_cut b off k ob tb g n ca cap N cc gen first L ao O w3 _ _ _ _ _ _ _ _ _ _ _ _ _ _ _ _ _ _ _ _ _ _ _ _ _ _ _ _ _ _ _ _ _ _ _ _ _ _ _ _ _ _ _ _ _ _ _ _ _ _ _ _ _ _ _ _ _ _ _ _ _ _ _ _ _ _ _ _ _ _ _ _ _ _ _ _ _ _ _ _ _ _ _ _ _ _ _ _ _ _ _ _ _ _ _ _ _ _ _ _ _ _ _ _ _ _ _ _ _ _ _ _ _ _ _ _ _ _ _ _ _ _ _ _ _ _ _ _ _ _ _ _ _ _ _ _ _ _ _ _ _ _ _ _ _ _ _ _ _ _ _ _ _ _ _ _ _ _ _ _ _ _ _ _ _ _ _ _ _ _ _ _ _ _ _ _ _ _ _ _ _ _ _ _ _ _ _ _ _ _ _ _ _ _ _ _ _ _ _ _ _ _ _ _ _ _ _ _ _ _ _ _ _ _ _ _ _ _ _ _ ?hp2 hk I3 ?_
        case hp2 => exact fun c a d v w h => HP.out c a d v w h
        · intro w4 tq uq t nums at' au an al ct cu cn cl es x139 x140 x141 x142 x143 x144 x145 x146 x147 x148 x149 x150 x151 x152 x153 x154 x155 x156 x157 i4 b3 b4 gi gl hb4 s2 ap
          have R14 := Lib.hid (R1.out.below hb4)
          have R24 := Lib.hid (R2.out.below hb4)
          have R34 := Lib.hid (CatBox.mk b3.row (CatOwn.base b3.own (show wr.heap.size ≤ w3.heap.size from B3.out.size)))
          have R44 := Lib.hid (CatBox.mk b4.row (CatOwn.base b4.own (show wr.heap.size ≤ w3.heap.size from B3.out.size)))
          have A2 := Lib.hid (show ∀ j, (Value.slice ar r.segs.length cr).ownBlock = some j → (Value.slice at' t.segs.length ct).ownBlock ≠ some j from fun j hj e => by
            obtain ⟨-, c, hc⟩ := rows_blk R1.out.segs hj
            have := heap_lt hc
            have := (rows_blk b3.segs e).1
            omega)
          have B4 := Lib.hid (below_trans B3.out hb4)
          obtain ⟨m, hm⟩ : ∃ m, nums.length = m := ⟨_, rfl⟩
          rw [hm] at gi gl ap ⊢
          refine all_rest wr.heap.size b off k ob tb g n ca cap N cc rb db tq uq m gen first er es L ao O r t nums ar ad at' au an al cr cd ct cu cn cl w4 _ _ _ _ _ _ _ _ _ _ _ _ _ _ _ _ _ _ _ _ _ _ _ _ _ _ _ _ _ _ _ _ _ _ _ _ _ _ _ _ _ _ _ _ _ _ _ _ _ _ _ _ _ _ _ _ _ _ _ _ _ _ _ _ _ _ _ _ _ _ _ _ _ _ _ _ _ _ _ _ _ _ _ _ _ _ _ _ _ _ _ _ _ _ _ _ _ _ _ _ _ _ _ _ _ _ _ _ _ _ _ _ _ _ _ _ _ _ _ _ _ _ _ _ _ _ _ _ _ _ _ _ _ _ _ _ _ _ _ _ _ _ _ _ _ _ _ _ _ _ _ _ _ _ _ _ _ _ _ _ _ _ _ _ _ _ _ _ _ _ _ _ _ _ _ _ _ _ _ _ _ _ _ _ _ _ _ _ _ _ _ _ _ _ _ _ _ _ _ _ _ _ _ _ _ _ _ _ _ _ ?hp3 hk B4.out.size (Lib.hid i4) R14 R24 R34 R44 (Lib.hid (OwnI.base gi (show wr.heap.size ≤ w3.heap.size from B3.out.size))) (Lib.hid (OwnI.base gl (show wr.heap.size ≤ w3.heap.size from B3.out.size))) (Lib.hid hm) S1.out s2 (Lib.hid ap) A2 ?_
          case hp3 => exact fun c a d v w h => HP.out c a d v w h
          · intro w5 x4 x26 x158 x159 x160 x161 x162 x163 x164 x165 x166 x167 x168 x169 x170 x171 x172 x173 x174 x175 x176 x177 x178 x179 x180 x181 x182 x183 x184 x185 x186 x187 x188 x189 x190 x191 x192 x193 x194 x195 x196 x197 x198 x199 x200 x201 x202 x203 x204 x205 x206 x207 x208 x209 x210 x211 x212 x213 x214 x215 hb5
            have B5 := Lib.hid (below_trans HB.out (B4.out.trans hb5))
            clear hb5 i4 b3 b4 gi gl hb4 s2 ap hm R14 R24 R34 R44 A2 I1 I3 R1 R2 B3 B4 S1
            go_step
            go_wp2_with fail
            go_roundw
            case rel => exact ⟨j + 1, by omega, by go_num, B5⟩
            case measure => simp [intOf]; omega
    · have e : j = 2 := by omega
      subst e
      clear hlt hj
      have kz : (k : Int) < (N : Int) := by omega
      have qt0 : ∀ p : In (TurnR tb ob b (off + k * 3) gen first O (.slice (some ⟨g, 0, none⟩) n cap) (.slice ao n ca)), p.w.cell? ⟨tb, 0, none⟩ = some (.int .i64 gen) := fun p => p.h.t0
      have qt1 : ∀ p : In (TurnR tb ob b (off + k * 3) gen first O (.slice (some ⟨g, 0, none⟩) n cap) (.slice ao n ca)), p.w.cell? ⟨tb, 1, none⟩ = some (.int .i64 first) := fun p => p.h.t1
      have qt2 : ∀ p : In (TurnR tb ob b (off + k * 3) gen first O (.slice (some ⟨g, 0, none⟩) n cap) (.slice ao n ca)), p.w.cell? ⟨tb, 2, none⟩ = some (.slice (some ⟨g, 0, none⟩) n cap) := fun p => p.h.t2
      have qc0 : ∀ p : In (TurnR tb ob b (off + k * 3) gen first O (.slice (some ⟨g, 0, none⟩) n cap) (.slice ao n ca)), p.w.cell? ⟨b, off + k * 3, none⟩ = some (.int .i64 gen) := fun p => p.h.c0
      have qc1 : ∀ p : In (TurnR tb ob b (off + k * 3) gen first O (.slice (some ⟨g, 0, none⟩) n cap) (.slice ao n ca)), p.w.cell? ⟨b, off + k * 3 + 1, none⟩ = some (.int .i64 first) := fun p => p.h.c1
      have qc2 : ∀ p : In (TurnR tb ob b (off + k * 3) gen first O (.slice (some ⟨g, 0, none⟩) n cap) (.slice ao n ca)), p.w.cell? ⟨b, off + k * 3 + 2, none⟩ = some (.slice ao n ca) := fun p => p.h.c2
      go_wp2_with fail
      refine wp_region_mixed [0, 1, 2, 3, 4, 5, 6] (TurnR tb ob b (off + k * 3) gen first O (.slice (some ⟨g, 0, none⟩) n cap) (.slice ao n ca)) (by kernel_rfl) (by kernel_rfl) (fun c a d v w h => HP.out c a d v w h) (I1.out.t.below (below_drew _)) ?_
      intro hne
      simp only [pick, List.map_cons, List.map_nil, List.getD_cons_zero, List.getD_cons_succ]
      refine wpMix_reads 5 _ (by kernel_rfl) ?_
      simp only [List.take_succ_cons, List.take_zero, List.drop_succ_cons, List.drop_zero]
      repeat (go_big_quiet_step (fail))
      refine wpQuiet_nil ?_
      refine wpMix_act rfl ?_ rfl
      try dsimp only
      go_wp2_with fail
      have I2 := Lib.hid (I1.out.below (below_drew _))
      refine (kept_walk gen first g n cap ca ao L wr.drew I1.out.len (by have := I1.out.few; omega) I1.out.room I2.out.tat I2.out.at' I2.out.mark).mono ?_
      rintro e w3 ⟨rfl, hb3⟩
      have B3 := Lib.hid (below_trans (below_drew wr) hb3)
      clear hb3
      try dsimp only
      go_wp2_with fail
      refine ⟨⟨⟨_, I1.out.t.below B3.out⟩, rfl⟩, ?_⟩
      refine wpMix_reads 1 _ (by kernel_rfl) ?_
      simp only [List.take_succ_cons, List.take_zero, List.drop_succ_cons, List.drop_zero]
      repeat (go_big_quiet_step (fail))
      refine wpQuiet_nil ?_
      refine wpMix_nil ?_
      clear hne qt0 qt1 qt2 qc0 qc1 qc2
      try dsimp only
      go_wp2_with fail
      exact HQ.out _ _ _ _ _ _ _ _ _ _ _ _ _ _ _ _ _ _ _ _ _ _ _ _ _ _ _ _ _ _ _ _ _ _ _ _ _ _ _ _ _ _ _ _ _ _ _ _ _ _ _ _ _ _ _ _ _ _ _ _ _ _ _ _ _ _ _ _ _ _ _ _ _ _ _ _ _ _ _ _ _ _ _ _ _ _ _ _ _ _ _ _ _ _ _ _ _ _ _ _ _ _ _ _ _ _ _ _ _ _ _ _ _ _ _ _ _ _ _ _ _ _ _ _ _ _ _ (below_trans HB.out B3.out)
end Go.Proofs.Ytmkljmljbbijeaa

/-! The walk of flumelaw10.CatalogAll. -/
namespace Go.Proofs.Ytmkljmljbbijeaa
open Go.RowKit

set_option maxHeartbeats 16000000 in
set_option maxRecDepth 100000 in
theorem cat_all (a : Option Addr) (L : List CatV) (ca : Nat) (O : COpV) (w : World) (hL : CatsAt w a L) (lL : L.length ≤ 3518437208783) (ok : COpOk O) :
    Calls Try.prog 3 #[.slice a L.length ca, copV O] w (TrueBelow w) := by
  have OK := Lib.hid ok
  have b1 := below_alloc w (.cells #[.int .i64 O.lsn, .int .i64 O.end_, .int .i64 O.size, .int .u32 (bv O.seed)] 25)
  have n1 := heap_alloc_new w (.cells #[.int .i64 O.lsn, .int .i64 O.end_, .int .i64 O.size, .int .u32 (bv O.seed)] 25)
  obtain ⟨w1, hw1⟩ : ∃ w1, w.alloc (.cells #[.int .i64 O.lsn, .int .i64 O.end_, .int .i64 O.size, .int .u32 (bv O.seed)] 25) = w1 := ⟨_, rfl⟩
  rw [hw1] at b1 n1
  have B1 := Lib.hid b1
  have HL := Lib.hid (hL.below b1)
  have OP := Lib.hid n1
  clear hL ok b1 n1
  unfold copV
  go_enter Try.func3, Try.ntmps3
  go_wp2_with fail
  refine (cat_begun _).mono ?_
  rintro e w2 ⟨rfl, hb2⟩
  have B2 := Lib.hid hb2
  clear hb2
  go_wp2_with fail
  go_loopw [5] (fun i wr => ∃ k : Nat, k ≤ L.length ∧ i = .int .i64 k ∧ Hid (Below w1.heap.size w1 wr)) (fun i _ => L.length - (intOf i).toNat)
  case atStart => exact ⟨0, by omega, rfl, B2⟩
  case round =>
    obtain ⟨k, hk, rfl, HB⟩ := hrel
    by_cases hlt : k < L.length
    · by_cases h20 : k < 20
      · obtain ⟨b, off, ai, cn, rfl, h0, h1, h2, h3⟩ := (HL.out.below HB.out) k hlt
        obtain ⟨C, hC⟩ : ∃ C, nthC L k = C := ⟨_, rfl⟩
        rw [hC] at h0 h1 h2 h3
        obtain ⟨gen, first, S⟩ := C
        dsimp only at h0 h1 h2 h3
        obtain ⟨n, hn⟩ : ∃ n, S.length = n := ⟨_, rfl⟩
        rw [hn] at h2 h3
        have E0 := Lib.hid h0
        have E1 := Lib.hid h1
        have HA := Lib.hid h3
        have HN := Lib.hid hn
        have OP2 := Lib.hid ((HB.out.block _ (heap_lt OP.out)).trans OP.out)
        clear h0 h1 h3 hn hC
        by_cases h80 : n ≤ 80
        · have E2 := Lib.hid h2
          go_upto_if 45 with (fail)
          go_step
          go_step
          go_step
          go_step
          refine all_first b off k w.heap.size n cn L.length ca gen first S ai O wr _ _ _ _ _ _ _ _ _ _ _ _ _ _ _ _ _ _ _ _ _ _ _ _ _ _ _ _ _ _ _ _ _ _ _ _ _ _ _ _ _ _ _ _ _ _ _ _ _ _ _ _ _ _ _ _ _ _ _ _ _ _ _ _ _ _ _ _ _ _ _ _ _ _ _ _ _ _ _ _ _ _ _ _ _ _ _ _ _ _ _ _ _ _ _ _ _ _ _ _ _ _ _ _ _ _ _ _ _ _ _ _ _ _ _ _ _ _ _ _ _ _ _ _ _ _ _ _ _ _ _ _ _ _ _ _ _ _ _ _ _ _ _ _ _ _ _ _ _ _ _ _ _ _ _ _ _ _ _ _ _ _ _ _ _ _ _ _ _ _ _ _ _ _ _ _ _ _ _ _ _ _ _ _ _ _ _ _ _ _ _ _ _ _ _ _ _ _ _ _ _ _ _ _ _ _ _ _ _ _ _ _ _ _ _ _ _ _ _ _ _ ?hp hlt HN h80 E0.out E1.out E2.out HA OK OP2 ?_
          case hp => exact fun c a d v w h => by cases d <;> exact h
          · intro w3 tb g cap x4 x7 x8 x9 x10 x11 x12 x13 x14 x46 x47 x48 x49 x50 x51 x52 x53 x54 x55 x56 x57 x58 x59 x60 x61 x62 x63 x64 x65 x66 x67 x68 x69 x70 x71 x72 x73 x74 x75 x76 x77 x78 x79 x80 x81 x82 x83 x84 x85 x86 x87 x88 x89 x90 x91 x92 x93 x94 x95 x96 x97 x98 x99 x100 x101 x102 x103 x104 x105 x106 x107 x108 x109 i3 hb3
            have B3 := Lib.hid (below_trans HB.out hb3)
            refine all_turns b off k w.heap.size tb g n cn cap L.length ca gen first S ai O w3 _ _ _ _ _ _ _ _ _ _ _ _ _ _ _ _ _ _ _ _ _ _ _ _ _ _ _ _ _ _ _ _ _ _ _ _ _ _ _ _ _ _ _ _ _ _ _ _ _ _ _ _ _ _ _ _ _ _ _ _ _ _ _ _ _ _ _ _ _ _ _ _ _ _ _ _ _ _ _ _ _ _ _ _ _ _ _ _ _ _ _ _ _ _ _ _ _ _ _ _ _ _ _ _ _ _ _ _ _ _ _ _ _ _ _ _ _ _ _ _ _ _ _ _ _ _ _ _ _ _ _ _ _ _ _ _ _ _ _ _ _ _ _ _ _ _ _ _ _ _ _ _ _ _ _ _ _ _ _ _ _ _ _ _ _ _ _ _ _ _ _ _ _ _ _ _ _ _ _ _ _ _ _ _ _ _ _ _ _ _ _ _ _ _ _ _ _ _ _ _ _ _ _ _ _ _ _ _ _ _ _ _ _ _ _ _ _ _ _ _ ?hp2 hlt (Lib.hid i3) ?_
            case hp2 => exact fun c a d v w h => by cases d <;> exact h
            · intro w4 x4 x15 x16 x17 x18 x19 x20 x21 x22 x23 x24 x25 x26 x110 x111 x112 x113 x114 x115 x116 x117 x118 x119 x120 x121 x122 x123 x124 x125 x126 x127 x128 x129 x130 x131 x132 x133 x134 x135 x136 x137 x138 x139 x140 x141 x142 x143 x144 x145 x146 x147 x148 x149 x150 x151 x152 x153 x154 x155 x156 x157 x158 x159 x160 x161 x162 x163 x164 x165 x166 x167 x168 x169 x170 x171 x172 x173 x174 x175 x176 x177 x178 x179 x180 x181 x182 x183 x184 x185 x186 x187 x188 x189 x190 x191 x192 x193 x194 x195 x196 x197 x198 x199 x200 x201 x202 x203 x204 x205 x206 x207 x208 x209 x210 x211 x212 x213 x214 x215 x216 x217 x218 x219 x220 x221 x222 hb4
              have B4 := Lib.hid (below_trans B3.out hb4)
              clear hb3 hb4 i3 HA OP2 E0 E1 E2 h2 B3
              go_step
              go_wp2_with fail
              go_roundw
              case rel => exact ⟨k + 1, by omega, by go_num, B4⟩
              case measure => simp [intOf]; omega
        · have hge : 80 < (n : Int) := by omega
          go_wp2_with fail
          go_roundw
          case rel => exact ⟨k + 1, by omega, by go_num, HB⟩
          case measure => simp [intOf]; omega
      · have hge : (20 : Int) ≤ (k : Int) := by omega
        go_wp2_with fail
        go_ret
        exact ⟨rfl, below_trans B1.out HB.out⟩
    · have hge : (L.length : Int) ≤ (k : Int) := by omega
      go_wp2_with fail
      go_ret
      exact ⟨rfl, below_trans B1.out HB.out⟩
end Go.Proofs.Ytmkljmljbbijeaa

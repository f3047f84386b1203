/- What is asked of an index, among the arguments, in slices. -/
import Derived.Test.YtmkljmljbbijeaaOpenCats
import Derived.Test.YtmkljmljbbijeaaPiece
import Derived.Test.YtmkljmljbbijeaaIdxLoads
namespace Go.Proofs.Ytmkljmljbbijeaa
open Go.ChangeShapes Go.WideShapes Go.ChangeAt Go.RowKit Go.Deep

/-- What is asked of an index: a kind, an LSN, an offset. -/
structure IOpV where
  kind : Int
  lsn : Int
  off : Int
structure IOpOk (o : IOpV) : Prop where
  kind : R64 o.kind
  lsn : R64 o.lsn
  off : R64 o.off
instance : Inhabited IOpV := ⟨⟨0, 0, 0⟩⟩
def nthIO (L : List IOpV) (i : Nat) : IOpV := L.getD i ⟨0, 0, 0⟩
structure IOpCells (w : World) (b o : Nat) (s : IOpV) : Prop where
  c0 : w.cell? ⟨b, o, none⟩ = some (.int .i64 s.kind)
  c1 : w.cell? ⟨b, o + 1, none⟩ = some (.int .i64 s.lsn)
  c2 : w.cell? ⟨b, o + 2, none⟩ = some (.int .i64 s.off)
theorem IOpCells.below {w w' : World} {b o : Nat} {s : IOpV} (h : IOpCells w b o s) (hb : Below w.heap.size w w') : IOpCells w' b o s :=
  ⟨cell_keep hb h.c0, cell_keep hb h.c1, cell_keep hb h.c2⟩
def IOpsAt (w : World) (ao : Option Addr) (L : List IOpV) : Prop := ∀ i, i < L.length → IOpOk (nthIO L i) ∧ ∃ b off, ao = some ⟨b, off, none⟩ ∧ IOpCells w b (off + i * 3) (nthIO L i)
theorem IOpsAt.below {w w' : World} {ao : Option Addr} {L : List IOpV} (h : IOpsAt w ao L) (hb : Below w.heap.size w w') : IOpsAt w' ao L := fun i hi => by
  obtain ⟨hr, b, off, e, hc⟩ := h i hi
  exact ⟨hr, b, off, e, hc.below hb⟩
section
variable {H : Type} {enc : TypeId × Value → H}
set_option maxRecDepth 100000 in
theorem cellsIOp : Try.prog.cellsOf 79 = 3 := by kernel_rfl
set_option maxRecDepth 100000 in
theorem bytesIOp : Try.prog.bytesOf 79 = 24 := by kernel_rfl
set_option maxRecDepth 100000 in
theorem read_iop_cells {W : World} {fuel : Nat} {cs : List Value} {d : DataW H} {p : List MemPlace} (h : DataW.trod enc Try.prog W 0 (fun _ => true) true fuel 79 cs = some (d, p)) :
    ∃ s : IOpV, cs = [.int .i64 s.kind, .int .i64 s.lsn, .int .i64 s.off] ∧ IOpOk s := by
  obtain ⟨y0, y1, y2, k, hxy, hlen, g0, g1, g2⟩ := trod_struct3 Try.underlying79 h
  rw [cellsIOp] at hlen
  match cs, hlen with
  | [v0, v1, v2], _ =>
    simp [cellsI64Cat, cellsIntCat] at g0 g1 g2
    obtain ⟨z0, hz0, _, hw0⟩ := DataW.trod_int Try.underlying3 g0
    obtain ⟨z1, hz1, _, hw1⟩ := DataW.trod_int Try.underlying2 g1
    obtain ⟨z2, hz2, _, hw2⟩ := DataW.trod_int Try.underlying3 g2
    injection hz0 with hz0; injection hz1 with hz1; injection hz2 with hz2
    subst hz0 hz1 hz2
    exact ⟨⟨z0, z1, z2⟩, rfl, i64_range hw0, i64_range hw1, i64_range hw2⟩
set_option maxRecDepth 100000 in
theorem read_iops {W : World} {fuel : Nat} {v : Value} {d : DataW H} {p : List MemPlace} (h : DataW.trod enc Try.prog W 0 (fun _ => true) true fuel 76 [v] = some (d, p)) (hr : Reach 76 d) :
    ∃ (ao : Option Addr) (L : List IOpV) (cap : Nat), v = .slice ao L.length cap ∧ IOpsAt W ao L ∧ (ao = none → cap = 0) ∧ L.length ≤ cap ∧ cap ≤ 5864062014806 := by
  rcases open_slice Try.underlying76 h with ⟨hcs, hx⟩ | ⟨x, len, cap, m, n, D, Pl, hcs, _, hl, hm, hmm, hx, hall⟩
  · injection hcs with hcs; subst hcs
    exact ⟨none, [], 0, rfl, fun i hi => by simp at hi, fun _ => rfl, Nat.le_refl _, by omega⟩
  · injection hcs with hcs; subst hcs
    injection hx with hd hp; subst hd
    have hmc : m = cap := by simpa using hmm
    subst hmc
    have hrl := reach_len Try.underlying76 hr
    have htot : ((List.range len).map D).length + ((List.range (m - len)).map fun j => D (len + j)).length = m := by simp; omega
    rw [htot, bytesIOp] at hrl
    have hreach : reachBytes = 140737488351232 := by decide
    rw [cellsIOp] at hall
    have each : ∀ i, i < len → ∃ s : IOpV, IOpOk s ∧ W.cell? (x.add (i * 3)) = some (.int .i64 s.kind) ∧ W.cell? (x.add (i * 3 + 1)) = some (.int .i64 s.lsn) ∧ W.cell? (x.add (i * 3 + 2)) = some (.int .i64 s.off) := fun i hi => by
      obtain ⟨cs', h1, h2⟩ := hall i (by omega)
      obtain ⟨_, hlen, hcell⟩ := World.cells?_some h1
      obtain ⟨s, hcs, hok⟩ := read_iop_cells h2
      subst hcs
      have e0 := hcell 0 (by simp)
      have e1 := hcell 1 (by simp)
      have e2 := hcell 2 (by simp)
      rw [add_add] at e0 e1 e2
      simp at e0 e1 e2
      exact ⟨s, hok, e0, e1, e2⟩
    obtain ⟨B, hB⟩ := choose_lt each
    have hlen : ((List.range len).map B).length = len := by simp
    refine ⟨some x, (List.range len).map B, m, by rw [hlen], fun i hi => ?_, (fun h => by cases h), by rw [hlen]; exact hl, by omega⟩
    rw [hlen] at hi
    obtain ⟨hok, h0, h1, h2⟩ := hB i hi
    obtain ⟨b, off, spot⟩ := x
    have hspot : spot = none := by simpa [Addr.add] using World.cell?_spot (hB 0 (by omega)).2.1
    subst hspot
    rw [Addr.add_mid] at h0 h1 h2
    have hn : nthIO ((List.range len).map B) i = B i := by simp [nthIO, hi]
    rw [hn]
    exact ⟨hok, b, off, rfl, h0, h1, h2⟩
end
end Go.Proofs.Ytmkljmljbbijeaa

/-! flumelaw9.IndexAll: an index and the document's one, side by side; one call of both, in pieces. -/
namespace Go.Proofs.Ytmkljmljbbijeaa
open Go.RowKit

theorem held_ne_ref {w : World} {base yb : Nat} {v : Value} {L : List EntV} {cs : Array Value} {f : Nat × Nat} (h : HeldE w base v L) (hr : w.heap[yb]? = some (.cells cs 81 f)) : v.ownBlock ≠ some yb := fun e => by
  obtain ⟨-, c, hc⟩ := held_blk h e
  rw [hr] at hc
  simp at hc
theorem held_ne_op {w : World} {base ob : Nat} {v : Value} {L : List EntV} {cs : Array Value} {f : Nat × Nat} (h : HeldE w base v L) (hr : w.heap[ob]? = some (.cells cs 79 f)) : v.ownBlock ≠ some ob := fun e => by
  obtain ⟨-, c, hc⟩ := held_blk h e
  rw [hr] at hc
  simp at hc
theorem row_ne_of {w : World} {xb yb : Nat} {cs ds : Array Value} {t u : TypeId} {f g : Nat × Nat} (hx : w.heap[xb]? = some (.cells cs t f)) (hy : w.heap[yb]? = some (.cells ds u g)) (ne : t ≠ u) : yb ≠ xb := fun e => by
  subst e
  rw [hx] at hy
  injection hy with hy
  injection hy with _ h
  exact ne h
/-- An index and the document's, apart. -/
structure PairR (w1 : World) (base xb yb : Nat) (X : IdxV) (ax : Option Addr) (nx cx : Nat) (Y : IdxV) (ay : Option Addr) (ny cy : Nat) (wr : World) : Prop where
  x : IdxAt wr base xb X ax nx cx
  y : RefAt wr base yb Y ay ny cy
  ap : ∀ j, (Value.slice ay ny cy).ownBlock = some j → (Value.slice ax nx cx).ownBlock ≠ some j
  low : Below base w1 wr
section
variable {w1 wr w' : World} {base xb yb nx cx ny cy : Nat} {X Y : IdxV} {ax ay : Option Addr}
theorem PairR.size (h : PairR w1 base xb yb X ax nx cx Y ay ny cy wr) : base ≤ wr.heap.size := Nat.le_trans h.x.low (Nat.le_of_lt (heap_lt h.x.row))
theorem PairR.on (h : PairR w1 base xb yb X ax nx cx Y ay ny cy wr) (hb : Below wr.heap.size wr w') : PairR w1 base xb yb X ax nx cx Y ay ny cy w' :=
  ⟨h.x.keep hb, h.y.keep hb, h.ap, h.low.trans (hb.mono h.size)⟩
theorem PairR.turnX (h : PairR w1 base xb yb X ax nx cx Y ay ny cy wr) {X' : IdxV} {ax' : Option Addr} {nx' cx' : Nat} (T : Turned wr w' xb (.slice ax nx cx) (.slice ax' nx' cx')) (hx : IdxAt w' base xb X' ax' nx' cx') : PairR w1 base xb yb X' ax' nx' cx' Y ay ny cy w' :=
  ⟨hx, h.y.move fun q hq => by
    rcases hq with rfl | hq
    · exact T.far q (heap_lt h.y.row) (row_ne_of h.x.row h.y.row (by decide)) (held_ne_ref h.x.held h.y.row)
    · obtain ⟨-, c, hc⟩ := rows_blk h.y.own hq
      exact T.far q (heap_lt hc) (fun e => held_ne (HeldE.of_own h.y.own) h.x.row (e ▸ hq)) (h.ap q hq), fun j hj e => by
    rcases T.who j e with e | e
    · exact h.ap j hj e
    · obtain ⟨-, c, hc⟩ := rows_blk h.y.own hj
      have := heap_lt hc; omega, h.low.trans (T.below h.x.low (fun j hj => (held_blk h.x.held hj).1) h.size)⟩
theorem PairR.turnY (h : PairR w1 base xb yb X ax nx cx Y ay ny cy wr) {Y' : IdxV} {ay' : Option Addr} {ny' cy' : Nat} (T : Turned wr w' yb (.slice ay ny cy) (.slice ay' ny' cy')) (hy : RefAt w' base yb Y' ay' ny' cy') : PairR w1 base xb yb X ax nx cx Y' ay' ny' cy' w' :=
  ⟨h.x.move fun q hq => by
    rcases hq with rfl | hq
    · exact T.far q (heap_lt h.x.row) (Ne.symm (row_ne_of h.x.row h.y.row (by decide))) (held_ne (HeldE.of_own h.y.own) h.x.row)
    · obtain ⟨-, c, hc⟩ := held_blk h.x.held hq
      exact T.far q (heap_lt hc) (fun e => held_ne_ref h.x.held h.y.row (e ▸ hq)) (fun e => h.ap q e hq), hy, fun j hj e => by
    rcases T.who j hj with e2 | e2
    · exact h.ap j e2 e
    · obtain ⟨-, c, hc⟩ := held_blk h.x.held e
      have := heap_lt hc; omega, h.low.trans (T.below h.y.low (fun j hj => (rows_blk h.y.own hj).1) h.size)⟩
theorem PairR.opX (h : PairR w1 base xb yb X ax nx cx Y ay ny cy wr) {ob : Nat} {cs : Array Value} (ho : wr.heap[ob]? = some (.cells cs 79 (0, 0))) {v' : Value} (T : Turned wr w' xb (.slice ax nx cx) v') : w'.heap[ob]? = some (.cells cs 79 (0, 0)) :=
  (T.far ob (heap_lt ho) (row_ne_of h.x.row ho (by decide)) (held_ne_op h.x.held ho)).trans ho
theorem PairR.opY (h : PairR w1 base xb yb X ax nx cx Y ay ny cy wr) {ob : Nat} {cs : Array Value} (ho : wr.heap[ob]? = some (.cells cs 79 (0, 0))) {v' : Value} (T : Turned wr w' yb (.slice ay ny cy) v') : w'.heap[ob]? = some (.cells cs 79 (0, 0)) :=
  (T.far ob (heap_lt ho) (row_ne_of h.y.row ho (by decide)) (held_ne_op (HeldE.of_own h.y.own) ho)).trans ho
end
/-- What the drawn regions' reads lean on. -/
structure OpR (ob : Nat) (lsn off : Int) (w : World) : Prop where
  o1 : w.cell? ⟨ob, 1, none⟩ = some (.int .i64 lsn)
  o2 : w.cell? ⟨ob, 2, none⟩ = some (.int .i64 off)
theorem opR_row {w : World} {ob : Nat} {kd lsn off : Int} (h : w.heap[ob]? = some (.cells #[.int .i64 kd, .int .i64 lsn, .int .i64 off] 79 (0, 0))) : OpR ob lsn off w := ⟨cell_of_row _ _ 1 _ _ _ h, cell_of_row _ _ 2 _ _ _ h⟩

set_option maxHeartbeats 8000000 in
set_option maxRecDepth 100000 in
theorem all_add (base ob xb nx cx yb ny cy : Nat) (X : IdxV) (ax ay : Option Addr) (kd lsn off : Int) (w1 w : World) (Q : Exit → Act → World → Prop)
    (u0 u1 u2 u3 u4 u6 u8 u9 u12 u13 u14 u15 u16 u17 u18 u19 u20 u21 u22 u23 u24 u25 u26 u27 u28 u29 u30 u31 u32 u33 u34 u35 u36 u37 u38 u39 u40 u41 u42 u43 u44 u45 u46 u47 u48 u49 u50 u51 u52 u53 u54 u55 u56 u57 u58 u59 u60 u61 u63 u64 u65 u66 u67 u68 u69 u70 u71 u72 u73 u74 u75 u76 u77 u78 u79 u80 u81 u82 u83 u84 u85 u86 u87 u88 u89 u90 u91 u92 u93 u94 u95 u96 u97 u98 u99 u100 u101 u102 u103 u104 u105 u106 u107 u108 u109 u110 u111 u112 u113 u114 u115 u116 u117 u118 u119 u120 u121 u122 u123 u124 u125 u126 u127 u128 u129 u130 u131 u132 u133 u134 u135 u136 u137 u138 u139 u140 u141 u142 u143 u144 u145 u146 u147 u148 u149 u150 u151 u152 u153 u154 u155 u156 u157 u158 u159 u160 u161 u162 u163 u164 u165 u166 u167 u168 u169 u170 u171 u172 u173 u174 u175 u176 u177 u178 u179 u180 u181 u182 u183 u184 u185 u186 u187 u188 u189 u190 u191 u192 u193 u194 u195 u196 u197 u198 u199 u200 u201 u202 u203 u204 u205 u206 u207 u208 u209 : Value)
    (hP : ∀ (c : List PanicEntry) (a : Act) (d : Option Tmp) (v : Value) (w : World), Q (.panic c) (a.put d v) w → Q (.panic c) a w)
    (ok : Hid (IdxOk X)) (P : Hid (PairR w1 base xb yb X ax nx cx X ay ny cy w)) (OP : Hid (w.heap[ob]? = some (.cells #[.int .i64 kd, .int .i64 lsn, .int .i64 off] 79 (0, 0)))) (hl : lsn ≤ 9223372036854775807)
    (hK : ∀ (wd : World) (X' : IdxV) (ax' : Option Addr) (nx' cx' : Nat) (ay' : Option Addr) (ny' cy' : Nat) (x64 x65 x66 x67 x68 x69 x70 x71 x72 x73 x74 x75 x76 : Value), IdxOk X' → PairR w1 base xb yb X' ax' nx' cx' X' ay' ny' cy' wd → Q .normal ⟨#[u0, u1, u2, u3, u4, .pointer (some ⟨xb, 0, none⟩), u6, .pointer (some ⟨yb, 0, none⟩), u8, u9, .pointer (some ⟨ob, 0, none⟩), .bool true, u12, u13, u14, u15, u16, u17, u18, u19, u20, u21, u22, u23, u24, u25, u26, u27, u28, u29, u30, u31, u32, u33, u34, u35, u36, u37, u38, u39, u40, u41, u42, u43, u44, u45, u46, u47, u48, u49, u50, u51, u52, u53, u54, u55, u56, u57, u58, u59, u60, u61, .bool true, u63, x64, x65, x66, x67, x68, x69, x70, x71, x72, x73, x74, x75, x76, u77, u78, u79, u80, u81, u82, u83, u84, u85, u86, u87, u88, u89, u90, u91, u92, u93, u94, u95, u96, u97, u98, u99, u100, u101, u102, u103, u104, u105, u106, u107, u108, u109, u110, u111, u112, u113, u114, u115, u116, u117, u118, u119, u120, u121, u122, u123, u124, u125, u126, u127, u128, u129, u130, u131, u132, u133, u134, u135, u136, u137, u138, u139, u140, u141, u142, u143, u144, u145, u146, u147, u148, u149, u150, u151, u152, u153, u154, u155, u156, u157, u158, u159, u160, u161, u162, u163, u164, u165, u166, u167, u168, u169, u170, u171, u172, u173, u174, u175, u176, u177, u178, u179, u180, u181, u182, u183, u184, u185, u186, u187, u188, u189, u190, u191, u192, u193, u194, u195, u196, u197, u198, u199, u200, u201, u202, u203, u204, u205, u206, u207, u208, u209], []⟩ wd) :
    (ifOf Try.f9 62).wp Try.prog Q ⟨#[u0, u1, u2, u3, u4, .pointer (some ⟨xb, 0, none⟩), u6, .pointer (some ⟨yb, 0, none⟩), u8, u9, .pointer (some ⟨ob, 0, none⟩), .bool true, u12, u13, u14, u15, u16, u17, u18, u19, u20, u21, u22, u23, u24, u25, u26, u27, u28, u29, u30, u31, u32, u33, u34, u35, u36, u37, u38, u39, u40, u41, u42, u43, u44, u45, u46, u47, u48, u49, u50, u51, u52, u53, u54, u55, u56, u57, u58, u59, u60, u61, .bool true, u63, u64, u65, u66, u67, u68, u69, u70, u71, u72, u73, u74, u75, u76, u77, u78, u79, u80, u81, u82, u83, u84, u85, u86, u87, u88, u89, u90, u91, u92, u93, u94, u95, u96, u97, u98, u99, u100, u101, u102, u103, u104, u105, u106, u107, u108, u109, u110, u111, u112, u113, u114, u115, u116, u117, u118, u119, u120, u121, u122, u123, u124, u125, u126, u127, u128, u129, u130, u131, u132, u133, u134, u135, u136, u137, u138, u139, u140, u141, u142, u143, u144, u145, u146, u147, u148, u149, u150, u151, u152, u153, u154, u155, u156, u157, u158, u159, u160, u161, u162, u163, u164, u165, u166, u167, u168, u169, u170, u171, u172, u173, u174, u175, u176, u177, u178, u179, u180, u181, u182, u183, u184, u185, u186, u187, u188, u189, u190, u191, u192, u193, u194, u195, u196, u197, u198, u199, u200, u201, u202, u203, u204, u205, u206, u207, u208, u209], []⟩ w := by
  have HQ := Lib.hid hK
  have HP := Lib.hid hP
  have HL := Lib.hid hl
  clear hK hP hl
  have q1 : ∀ p : In (OpR ob lsn off), p.w.cell? ⟨ob, 1, none⟩ = some (.int .i64 lsn) := fun p => p.h.o1
  have q2 : ∀ p : In (OpR ob lsn off), p.w.cell? ⟨ob, 2, none⟩ = some (.int .i64 off) := fun p => p.h.o2
  have P0 := Lib.hid (P.out.on (below_drew w))
  have O0 := Lib.hid (((below_drew w).block _ (heap_lt OP.out)).trans OP.out)
  conv => arg 2; whnf
  go_wp2_with fail
  refine wp_region_mixed [0, 1, 2, 3, 4, 6, 7, 8, 9, 10, 5, 11, 12, 13] (OpR ob lsn off) (by kernel_rfl) (by kernel_rfl) (fun c a d v w h => HP.out c a d v w h) (opR_row O0.out) ?_
  intro hne
  simp only [pick, List.map_cons, List.map_nil, List.getD_cons_zero, List.getD_cons_succ]
  refine wpMix_reads 10 _ (by kernel_rfl) ?_
  simp only [List.take_succ_cons, List.take_zero, List.drop_succ_cons, List.drop_zero]
  repeat (go_big_quiet_step (fail))
  refine wpQuiet_nil ?_
  refine wpMix_act rfl ?_ rfl
  go_wp2_with fail
  refine (idx_add base xb nx cx X ax lsn off w.drew (Lib.hid P0.out.x) ok (Lib.hid P0.out.size)).mono ?_
  rintro e w2 ⟨Y, er, a2, n2, c2, hA, rfl, hat, hT⟩
  have A2 := Lib.hid hA
  have P2 := Lib.hid (P0.out.turnX hT hat)
  have O2 := Lib.hid (P0.out.opX O0.out hT)
  clear hA hat hT
  go_wp2_with fail
  refine ⟨⟨⟨_, opR_row O2.out⟩, rfl⟩, ?_⟩
  refine wpMix_act rfl ?_ rfl
  go_wp2_with fail
  refine (ref_add base yb ny cy X ay lsn off w2 (Lib.hid P2.out.y) ok (Lib.hid P2.out.size) HL.out).mono ?_
  rintro e w3 ⟨Z, er2, a3, n3, c3, hA, rfl, hat, hT⟩
  obtain ⟨rfl, rfl⟩ := hA.uniq A2.out
  have K3 := Lib.hid (A2.out.ok ok.out HL.out)
  have P3 := Lib.hid (P2.out.turnY hT hat)
  have O3 := Lib.hid (P2.out.opY O2.out hT)
  clear hA hat hT A2
  go_wp2_with fail
  refine ⟨⟨⟨_, opR_row O3.out⟩, rfl⟩, ?_⟩
  refine wpMix_reads 2 _ (by kernel_rfl) ?_
  simp only [List.take_succ_cons, List.take_zero, List.drop_succ_cons, List.drop_zero]
  repeat (go_big_quiet_step (fail))
  refine wpQuiet_nil ?_
  refine wpMix_nil ?_
  clear hne q1 q2
  go_wp2_with fail
  exact HQ.out _ _ _ _ _ _ _ _ _ _ _ _ _ _ _ _ _ _ _ _ _ K3.out P3.out

set_option maxHeartbeats 8000000 in
set_option maxRecDepth 100000 in
theorem all_cut (base ob xb nx cx yb ny cy : Nat) (X : IdxV) (ax ay : Option Addr) (kd lsn off : Int) (w1 w : World) (Q : Exit → Act → World → Prop)
    (u0 u1 u2 u3 u4 u6 u8 u9 u12 u13 u14 u15 u16 u17 u18 u19 u20 u21 u22 u23 u24 u25 u26 u27 u28 u29 u30 u31 u32 u33 u34 u35 u36 u37 u38 u39 u40 u41 u42 u43 u44 u45 u46 u47 u48 u49 u50 u51 u52 u53 u54 u55 u56 u57 u58 u59 u60 u61 u62 u63 u64 u65 u66 u67 u68 u69 u70 u71 u72 u73 u74 u75 u76 u77 u78 u79 u80 u81 u82 u83 u84 u85 u86 u87 u88 u89 u90 u91 u92 u93 u94 u95 u96 u97 u98 u99 u100 u101 u102 u103 u104 u105 u106 u107 u108 u109 u110 u111 u112 u113 u114 u115 u116 u117 u118 u119 u120 u121 u122 u123 u124 u125 u126 u127 u128 u129 u130 u131 u132 u133 u134 u135 u136 u137 u138 u139 u140 u141 u142 u143 u144 u145 u146 u148 u149 u150 u151 u152 u153 u154 u155 u156 u157 u158 u159 u160 u161 u162 u163 u164 u165 u166 u167 u168 u169 u170 u171 u172 u173 u174 u175 u176 u177 u178 u179 u180 u181 u182 u183 u184 u185 u186 u187 u188 u189 u190 u191 u192 u193 u194 u195 u196 u197 u198 u199 u200 u201 u202 u203 u204 u205 u206 u207 u208 u209 : Value)
    (hP : ∀ (c : List PanicEntry) (a : Act) (d : Option Tmp) (v : Value) (w : World), Q (.panic c) (a.put d v) w → Q (.panic c) a w)
    (ok : Hid (IdxOk X)) (P : Hid (PairR w1 base xb yb X ax nx cx X ay ny cy w)) (OP : Hid (w.heap[ob]? = some (.cells #[.int .i64 kd, .int .i64 lsn, .int .i64 off] 79 (0, 0))))
    (hK : ∀ (wd : World) (X' : IdxV) (ax' : Option Addr) (nx' cx' : Nat) (ay' : Option Addr) (ny' cy' : Nat) (x149 x150 x151 x152 x153 x154 x155 x156 x157 : Value), IdxOk X' → PairR w1 base xb yb X' ax' nx' cx' X' ay' ny' cy' wd → Q .normal ⟨#[u0, u1, u2, u3, u4, .pointer (some ⟨xb, 0, none⟩), u6, .pointer (some ⟨yb, 0, none⟩), u8, u9, .pointer (some ⟨ob, 0, none⟩), .bool true, u12, u13, u14, u15, u16, u17, u18, u19, u20, u21, u22, u23, u24, u25, u26, u27, u28, u29, u30, u31, u32, u33, u34, u35, u36, u37, u38, u39, u40, u41, u42, u43, u44, u45, u46, u47, u48, u49, u50, u51, u52, u53, u54, u55, u56, u57, u58, u59, u60, u61, u62, u63, u64, u65, u66, u67, u68, u69, u70, u71, u72, u73, u74, u75, u76, u77, u78, u79, u80, u81, u82, u83, u84, u85, u86, u87, u88, u89, u90, u91, u92, u93, u94, u95, u96, u97, u98, u99, u100, u101, u102, u103, u104, u105, u106, u107, u108, u109, u110, u111, u112, u113, u114, u115, u116, u117, u118, u119, u120, u121, u122, u123, u124, u125, u126, u127, u128, u129, u130, u131, u132, u133, u134, u135, u136, u137, u138, u139, u140, u141, u142, u143, u144, u145, u146, .bool true, u148, x149, x150, x151, x152, x153, x154, x155, x156, x157, u158, u159, u160, u161, u162, u163, u164, u165, u166, u167, u168, u169, u170, u171, u172, u173, u174, u175, u176, u177, u178, u179, u180, u181, u182, u183, u184, u185, u186, u187, u188, u189, u190, u191, u192, u193, u194, u195, u196, u197, u198, u199, u200, u201, u202, u203, u204, u205, u206, u207, u208, u209], []⟩ wd) :
    (ifOf Try.f9 147).wp Try.prog Q ⟨#[u0, u1, u2, u3, u4, .pointer (some ⟨xb, 0, none⟩), u6, .pointer (some ⟨yb, 0, none⟩), u8, u9, .pointer (some ⟨ob, 0, none⟩), .bool true, u12, u13, u14, u15, u16, u17, u18, u19, u20, u21, u22, u23, u24, u25, u26, u27, u28, u29, u30, u31, u32, u33, u34, u35, u36, u37, u38, u39, u40, u41, u42, u43, u44, u45, u46, u47, u48, u49, u50, u51, u52, u53, u54, u55, u56, u57, u58, u59, u60, u61, u62, u63, u64, u65, u66, u67, u68, u69, u70, u71, u72, u73, u74, u75, u76, u77, u78, u79, u80, u81, u82, u83, u84, u85, u86, u87, u88, u89, u90, u91, u92, u93, u94, u95, u96, u97, u98, u99, u100, u101, u102, u103, u104, u105, u106, u107, u108, u109, u110, u111, u112, u113, u114, u115, u116, u117, u118, u119, u120, u121, u122, u123, u124, u125, u126, u127, u128, u129, u130, u131, u132, u133, u134, u135, u136, u137, u138, u139, u140, u141, u142, u143, u144, u145, u146, .bool true, u148, u149, u150, u151, u152, u153, u154, u155, u156, u157, u158, u159, u160, u161, u162, u163, u164, u165, u166, u167, u168, u169, u170, u171, u172, u173, u174, u175, u176, u177, u178, u179, u180, u181, u182, u183, u184, u185, u186, u187, u188, u189, u190, u191, u192, u193, u194, u195, u196, u197, u198, u199, u200, u201, u202, u203, u204, u205, u206, u207, u208, u209], []⟩ w := by
  have HQ := Lib.hid hK
  have HP := Lib.hid hP
  clear hK hP
  have q1 : ∀ p : In (OpR ob lsn off), p.w.cell? ⟨ob, 1, none⟩ = some (.int .i64 lsn) := fun p => p.h.o1
  have P0 := Lib.hid (P.out.on (below_drew w))
  have O0 := Lib.hid (((below_drew w).block _ (heap_lt OP.out)).trans OP.out)
  conv => arg 2; whnf
  go_wp2_with fail
  refine wp_region_mixed [0, 1, 2, 4, 5, 6, 3, 7, 8, 9] (OpR ob lsn off) (by kernel_rfl) (by kernel_rfl) (fun c a d v w h => HP.out c a d v w h) (opR_row O0.out) ?_
  intro hne
  simp only [pick, List.map_cons, List.map_nil, List.getD_cons_zero, List.getD_cons_succ]
  refine wpMix_reads 6 _ (by kernel_rfl) ?_
  simp only [List.take_succ_cons, List.take_zero, List.drop_succ_cons, List.drop_zero]
  repeat (go_big_quiet_step (fail))
  refine wpQuiet_nil ?_
  refine wpMix_act rfl ?_ rfl
  go_wp2_with fail
  refine (idx_cut base xb nx cx X ax lsn w.drew (Lib.hid P0.out.x) ok).mono ?_
  rintro e w2 ⟨Y, gone, a2, n2, c2, hA, rfl, hat, hT⟩
  have A2 := Lib.hid hA
  have P2 := Lib.hid (P0.out.turnX hT hat)
  have O2 := Lib.hid (P0.out.opX O0.out hT)
  clear hA hat hT
  go_wp2_with fail
  refine ⟨⟨⟨_, opR_row O2.out⟩, rfl⟩, ?_⟩
  refine wpMix_act rfl ?_ rfl
  go_wp2_with fail
  refine (ref_cut base yb ny cy X ay lsn w2 (Lib.hid P2.out.y) ok).mono ?_
  rintro e w3 ⟨Z, gone2, a3, n3, c3, hA, rfl, hat, hT⟩
  obtain ⟨rfl, rfl⟩ := hA.uniq A2.out
  have K3 := Lib.hid (A2.out.ok ok.out)
  have P3 := Lib.hid (P2.out.turnY hT hat)
  have O3 := Lib.hid (P2.out.opY O2.out hT)
  clear hA hat hT A2
  go_wp2_with fail
  refine ⟨⟨⟨_, opR_row O3.out⟩, rfl⟩, ?_⟩
  refine wpMix_reads 2 _ (by kernel_rfl) ?_
  simp only [List.take_succ_cons, List.take_zero, List.drop_succ_cons, List.drop_zero]
  repeat (go_big_quiet_step (fail))
  refine wpQuiet_nil ?_
  refine wpMix_nil ?_
  clear hne q1
  go_wp2_with fail
  exact HQ.out _ _ _ _ _ _ _ _ _ _ _ _ _ _ _ _ _ K3.out P3.out
end Go.Proofs.Ytmkljmljbbijeaa

/-! flumelaw9.IndexAll: one call of both, in pieces: the next frame; what is found; saved and loaded. -/
namespace Go.Proofs.Ytmkljmljbbijeaa
open Go.RowKit

/-- What region 17's reads lean on. -/
structure NextR (yb ob : Nat) (ll lo off : Int) (w : World) : Prop where
  y2 : w.cell? ⟨yb, 2, none⟩ = some (.int .i64 ll)
  y3 : w.cell? ⟨yb, 3, none⟩ = some (.int .i64 lo)
  o2 : w.cell? ⟨ob, 2, none⟩ = some (.int .i64 off)
theorem next_r {w : World} {base yb ny cy ob : Nat} {X : IdxV} {ay : Option Addr} {kd lsn off : Int} (h : RefAt w base yb X ay ny cy) (ho : w.heap[ob]? = some (.cells #[.int .i64 kd, .int .i64 lsn, .int .i64 off] 79 (0, 0))) : NextR yb ob X.last.lsn X.last.off off w :=
  ⟨cell_of_row _ _ 2 _ _ _ h.row, cell_of_row _ _ 3 _ _ _ h.row, cell_of_row _ _ 2 _ _ _ ho⟩

set_option maxHeartbeats 8000000 in
set_option maxRecDepth 100000 in
theorem all_next (base ob xb nx cx yb ny cy : Nat) (X : IdxV) (ax ay : Option Addr) (kd lsn off : Int) (w1 w : World) (Q : Exit → Act → World → Prop)
    (u0 u1 u2 u3 u4 u6 u8 u9 u12 u13 u14 u15 u16 u17 u18 u19 u20 u21 u22 u23 u24 u25 u26 u27 u28 u29 u30 u31 u32 u33 u34 u35 u36 u37 u38 u39 u40 u41 u42 u43 u44 u45 u46 u47 u48 u49 u50 u51 u52 u53 u54 u55 u56 u57 u58 u59 u60 u61 u62 u63 u64 u65 u66 u67 u68 u69 u70 u71 u72 u73 u74 u75 u76 u78 u79 u80 u81 u82 u83 u84 u85 u86 u87 u88 u89 u90 u91 u92 u93 u94 u95 u96 u97 u98 u99 u100 u101 u102 u103 u104 u105 u106 u107 u108 u109 u110 u111 u112 u113 u114 u115 u116 u117 u118 u119 u120 u121 u122 u123 u124 u125 u126 u127 u128 u129 u130 u131 u132 u133 u134 u135 u136 u137 u138 u139 u140 u141 u142 u143 u144 u145 u146 u147 u148 u149 u150 u151 u152 u153 u154 u155 u156 u157 u158 u159 u160 u161 u162 u163 u164 u165 u166 u167 u168 u169 u170 u171 u172 u173 u174 u175 u176 u177 u178 u179 u180 u181 u182 u183 u184 u185 u186 u187 u188 u189 u190 u191 u192 u193 u194 u195 u196 u197 u198 u199 u200 u201 u202 u203 u204 u205 u206 u207 u208 u209 : Value)
    (hP : ∀ (c : List PanicEntry) (a : Act) (d : Option Tmp) (v : Value) (w : World), Q (.panic c) (a.put d v) w → Q (.panic c) a w)
    (ok : Hid (IdxOk X)) (P : Hid (PairR w1 base xb yb X ax nx cx X ay ny cy w)) (OP : Hid (w.heap[ob]? = some (.cells #[.int .i64 kd, .int .i64 lsn, .int .i64 off] 79 (0, 0)))) (ho : R64 off)
    (hC : ∀ (x79 x80 x81 x82 x83 x84 x85 x86 x87 x88 x89 x90 x91 x92 x93 x94 x95 x96 x97 : Value), Q (.exit 1) ⟨#[u0, u1, u2, u3, u4, .pointer (some ⟨xb, 0, none⟩), u6, .pointer (some ⟨yb, 0, none⟩), u8, u9, .pointer (some ⟨ob, 0, none⟩), .bool true, u12, u13, u14, u15, u16, u17, u18, u19, u20, u21, u22, u23, u24, u25, u26, u27, u28, u29, u30, u31, u32, u33, u34, u35, u36, u37, u38, u39, u40, u41, u42, u43, u44, u45, u46, u47, u48, u49, u50, u51, u52, u53, u54, u55, u56, u57, u58, u59, u60, u61, u62, u63, u64, u65, u66, u67, u68, u69, u70, u71, u72, u73, u74, u75, u76, .bool true, u78, x79, x80, x81, x82, x83, x84, x85, x86, x87, x88, x89, x90, x91, x92, x93, x94, x95, x96, x97, u98, u99, u100, u101, u102, u103, u104, u105, u106, u107, u108, u109, u110, u111, u112, u113, u114, u115, u116, u117, u118, u119, u120, u121, u122, u123, u124, u125, u126, u127, u128, u129, u130, u131, u132, u133, u134, u135, u136, u137, u138, u139, u140, u141, u142, u143, u144, u145, u146, u147, u148, u149, u150, u151, u152, u153, u154, u155, u156, u157, u158, u159, u160, u161, u162, u163, u164, u165, u166, u167, u168, u169, u170, u171, u172, u173, u174, u175, u176, u177, u178, u179, u180, u181, u182, u183, u184, u185, u186, u187, u188, u189, u190, u191, u192, u193, u194, u195, u196, u197, u198, u199, u200, u201, u202, u203, u204, u205, u206, u207, u208, u209], []⟩ w)
    (hK : ∀ (wd : World) (X' : IdxV) (ax' : Option Addr) (nx' cx' : Nat) (ay' : Option Addr) (ny' cy' : Nat) (x12 x13 x14 x15 x79 x80 x81 x82 x83 x84 x85 x86 x87 x88 x89 x90 x91 x92 x93 x94 x95 x96 x97 x98 x99 x100 x101 x102 x103 x104 x105 x106 x107 x108 x109 x110 x111 x112 x113 x114 x115 x116 x117 x118 x119 x120 x121 x122 : Value), IdxOk X' → PairR w1 base xb yb X' ax' nx' cx' X' ay' ny' cy' wd → Q .normal ⟨#[u0, u1, u2, u3, u4, .pointer (some ⟨xb, 0, none⟩), u6, .pointer (some ⟨yb, 0, none⟩), u8, u9, .pointer (some ⟨ob, 0, none⟩), .bool true, x12, x13, x14, x15, u16, u17, u18, u19, u20, u21, u22, u23, u24, u25, u26, u27, u28, u29, u30, u31, u32, u33, u34, u35, u36, u37, u38, u39, u40, u41, u42, u43, u44, u45, u46, u47, u48, u49, u50, u51, u52, u53, u54, u55, u56, u57, u58, u59, u60, u61, u62, u63, u64, u65, u66, u67, u68, u69, u70, u71, u72, u73, u74, u75, u76, .bool true, u78, x79, x80, x81, x82, x83, x84, x85, x86, x87, x88, x89, x90, x91, x92, x93, x94, x95, x96, x97, x98, x99, x100, x101, x102, x103, x104, x105, x106, x107, x108, x109, x110, x111, x112, x113, x114, x115, x116, x117, x118, x119, x120, x121, x122, u123, u124, u125, u126, u127, u128, u129, u130, u131, u132, u133, u134, u135, u136, u137, u138, u139, u140, u141, u142, u143, u144, u145, u146, u147, u148, u149, u150, u151, u152, u153, u154, u155, u156, u157, u158, u159, u160, u161, u162, u163, u164, u165, u166, u167, u168, u169, u170, u171, u172, u173, u174, u175, u176, u177, u178, u179, u180, u181, u182, u183, u184, u185, u186, u187, u188, u189, u190, u191, u192, u193, u194, u195, u196, u197, u198, u199, u200, u201, u202, u203, u204, u205, u206, u207, u208, u209], []⟩ wd) :
    (ifOf Try.f9 77).wp Try.prog Q ⟨#[u0, u1, u2, u3, u4, .pointer (some ⟨xb, 0, none⟩), u6, .pointer (some ⟨yb, 0, none⟩), u8, u9, .pointer (some ⟨ob, 0, none⟩), .bool true, u12, u13, u14, u15, u16, u17, u18, u19, u20, u21, u22, u23, u24, u25, u26, u27, u28, u29, u30, u31, u32, u33, u34, u35, u36, u37, u38, u39, u40, u41, u42, u43, u44, u45, u46, u47, u48, u49, u50, u51, u52, u53, u54, u55, u56, u57, u58, u59, u60, u61, u62, u63, u64, u65, u66, u67, u68, u69, u70, u71, u72, u73, u74, u75, u76, .bool true, u78, u79, u80, u81, u82, u83, u84, u85, u86, u87, u88, u89, u90, u91, u92, u93, u94, u95, u96, u97, u98, u99, u100, u101, u102, u103, u104, u105, u106, u107, u108, u109, u110, u111, u112, u113, u114, u115, u116, u117, u118, u119, u120, u121, u122, u123, u124, u125, u126, u127, u128, u129, u130, u131, u132, u133, u134, u135, u136, u137, u138, u139, u140, u141, u142, u143, u144, u145, u146, u147, u148, u149, u150, u151, u152, u153, u154, u155, u156, u157, u158, u159, u160, u161, u162, u163, u164, u165, u166, u167, u168, u169, u170, u171, u172, u173, u174, u175, u176, u177, u178, u179, u180, u181, u182, u183, u184, u185, u186, u187, u188, u189, u190, u191, u192, u193, u194, u195, u196, u197, u198, u199, u200, u201, u202, u203, u204, u205, u206, u207, u208, u209], []⟩ w := by
  have HQ := Lib.hid hK
  have HC := Lib.hid hC
  have HP := Lib.hid hP
  have HO := Lib.hid ho
  have LL := ok.out.lsn
  have LO := ok.out.off
  have ho' : -9223372036854775808 ≤ off ∧ off ≤ 9223372036854775807 := ho
  obtain ⟨ll, hll⟩ : ∃ ll, X.last.lsn = ll := ⟨_, rfl⟩
  obtain ⟨lo, hlo⟩ : ∃ lo, X.last.off = lo := ⟨_, rfl⟩
  have NR := Lib.hid (show ∀ w', PairR w1 base xb yb X ax nx cx X ay ny cy w' → w'.heap[ob]? = some (.cells #[.int .i64 kd, .int .i64 lsn, .int .i64 off] 79 (0, 0)) → NextR yb ob ll lo off w' from fun w' h h2 => hll ▸ hlo ▸ next_r h.y h2)
  rw [hll] at LL
  rw [hlo] at LO
  clear hK hC hP ho hll hlo
  have y2 := (NR.out _ P.out OP.out).y2
  have y3 := (NR.out _ P.out OP.out).y3
  have o2 := (NR.out _ P.out OP.out).o2
  conv => arg 2; whnf
  by_cases h1 : 1073741824 < lo
  · go_wp2_with fail
    exact HC.out _ _ _ _ _ _ _ _ _ _ _ _ _ _ _ _ _ _ _
  · have t1 : decide (1073741824 < lo) = false := decide_eq_false h1
    by_cases h2 : 1073741824 < off
    · clear h1
      go_wp2_with fail
      exact HC.out _ _ _ _ _ _ _ _ _ _ _ _ _ _ _ _ _ _ _
    · have t2 : decide (1073741824 < off) = false := decide_eq_false h2
      by_cases h3 : ll = 9223372036854775807
      · subst h3
        clear h1 h2
        go_wp2_with fail
        exact HC.out _ _ _ _ _ _ _ _ _ _ _ _ _ _ _ _ _ _ _
      · have t3 : (ll == 9223372036854775807) = false := by simp [h3]
        have z1 : IntKind.i64.wrap (ll + 1) = ll + 1 := IntWalk.i64_in _ (by omega)
        have z2 : IntKind.i64.wrap (lo + off) = lo + off := IntWalk.i64_in _ (by omega)
        have M1 := Lib.hid (show ll + 1 ≤ 9223372036854775807 by omega)
        have q1 : ∀ p : In (NextR yb ob ll lo off), p.w.cell? ⟨yb, 2, none⟩ = some (.int .i64 ll) := fun p => p.h.y2
        have q2 : ∀ p : In (NextR yb ob ll lo off), p.w.cell? ⟨yb, 3, none⟩ = some (.int .i64 lo) := fun p => p.h.y3
        have q3 : ∀ p : In (NextR yb ob ll lo off), p.w.cell? ⟨ob, 2, none⟩ = some (.int .i64 off) := fun p => p.h.o2
        have P0 := Lib.hid (P.out.on (below_drew w))
        have O0 := Lib.hid (((below_drew w).block _ (heap_lt OP.out)).trans OP.out)
        clear h1 h2 h3 LL LO ho'
        go_wp2_with fail
        refine wp_region_mixed [0, 1, 2, 3, 4, 5, 6, 7, 8, 9, 10, 11, 12, 13, 14, 15] (NextR yb ob ll lo off) (by kernel_rfl) (by kernel_rfl) (fun c a d v w h => HP.out c a d v w h) (NR.out _ P0.out O0.out) ?_
        intro hne
        simp only [pick, List.map_cons, List.map_nil, List.getD_cons_zero, List.getD_cons_succ]
        refine wpMix_reads 16 _ (by kernel_rfl) ?_
        simp only [List.take_succ_cons, List.take_zero, List.drop_succ_cons, List.drop_zero]
        repeat (go_big_quiet_step (fail))
        refine wpQuiet_nil ?_
        refine wpMix_nil ?_
        clear hne q1 q2 q3 y2 y3 o2
        obtain ⟨l2, hl2⟩ : ∃ l2, ll + 1 = l2 := ⟨_, rfl⟩
        obtain ⟨o2, ho2⟩ : ∃ o2, lo + off = o2 := ⟨_, rfl⟩
        rw [hl2] at M1
        simp only [hl2, ho2]
        clear z1 z2 hl2 ho2
        go_wp2_with fail
        refine (idx_add base xb nx cx X ax l2 o2 w.drew (Lib.hid P0.out.x) ok (Lib.hid P0.out.size)).mono ?_
        rintro e w2 ⟨Y, er, a2, n2, c2, hA, rfl, hat, hT⟩
        have A2 := Lib.hid hA
        have P2 := Lib.hid (P0.out.turnX hT hat)
        clear hA hat hT
        go_wp2_with fail
        refine (ref_add base yb ny cy X ay l2 o2 w2 (Lib.hid P2.out.y) ok (Lib.hid P2.out.size) M1.out).mono ?_
        rintro e w3 ⟨Z, er2, a3, n3, c3, hA, rfl, hat, hT⟩
        obtain ⟨rfl, rfl⟩ := hA.uniq A2.out
        have K3 := Lib.hid (A2.out.ok ok.out M1.out)
        have P3 := Lib.hid (P2.out.turnY hT hat)
        clear hA hat hT A2
        go_wp2_with fail
        exact HQ.out _ _ _ _ _ _ _ _ _ _ _ _ _ _ _ _ _ _ _ _ _ _ _ _ _ _ _ _ _ _ _ _ _ _ _ _ _ _ _ _ _ _ _ _ _ _ _ _ _ _ _ _ _ _ _ _ K3.out P3.out

set_option maxHeartbeats 8000000 in
set_option maxRecDepth 100000 in
theorem all_find (base ob xb nx cx yb ny cy : Nat) (X : IdxV) (ax ay : Option Addr) (kd lsn off : Int) (w1 w : World) (Q : Exit → Act → World → Prop)
    (u0 u1 u2 u3 u4 u6 u8 u9 u12 u13 u14 u15 u16 u17 u18 u19 u20 u21 u22 u23 u24 u25 u26 u27 u28 u29 u30 u31 u32 u33 u34 u35 u36 u37 u38 u39 u40 u41 u42 u43 u44 u45 u46 u47 u48 u49 u50 u51 u52 u53 u54 u55 u56 u57 u58 u59 u60 u61 u62 u63 u64 u65 u66 u67 u68 u69 u70 u71 u72 u73 u74 u75 u76 u77 u78 u79 u80 u81 u82 u83 u84 u85 u86 u87 u88 u89 u90 u91 u92 u93 u94 u95 u96 u97 u98 u99 u100 u101 u102 u103 u104 u105 u106 u107 u108 u109 u110 u111 u112 u113 u114 u115 u116 u117 u118 u119 u120 u121 u122 u124 u125 u126 u127 u128 u129 u130 u131 u132 u133 u134 u135 u136 u137 u138 u139 u140 u141 u142 u143 u144 u145 u146 u147 u148 u149 u150 u151 u152 u153 u154 u155 u156 u157 u158 u159 u160 u161 u162 u163 u164 u165 u166 u167 u168 u169 u170 u171 u172 u173 u174 u175 u176 u177 u178 u179 u180 u181 u182 u183 u184 u185 u186 u187 u188 u189 u190 u191 u192 u193 u194 u195 u196 u197 u198 u199 u200 u201 u202 u203 u204 u205 u206 u207 u208 u209 : Value)
    (ok : Hid (IdxOk X)) (P : Hid (PairR w1 base xb yb X ax nx cx X ay ny cy w)) (OP : Hid (w.heap[ob]? = some (.cells #[.int .i64 kd, .int .i64 lsn, .int .i64 off] 79 (0, 0))))
    (hK : ∀ (wd : World) (x16 x17 x18 x19 x125 x126 x127 x128 x129 x130 x131 x132 x133 x134 x135 x136 x137 x138 x139 x140 x141 x142 x143 x144 x145 x146 : Value), PairR w1 base xb yb X ax nx cx X ay ny cy wd → Q .normal ⟨#[u0, u1, u2, u3, u4, .pointer (some ⟨xb, 0, none⟩), u6, .pointer (some ⟨yb, 0, none⟩), u8, u9, .pointer (some ⟨ob, 0, none⟩), .bool true, u12, u13, u14, u15, x16, x17, x18, x19, u20, u21, u22, u23, u24, u25, u26, u27, u28, u29, u30, u31, u32, u33, u34, u35, u36, u37, u38, u39, u40, u41, u42, u43, u44, u45, u46, u47, u48, u49, u50, u51, u52, u53, u54, u55, u56, u57, u58, u59, u60, u61, u62, u63, u64, u65, u66, u67, u68, u69, u70, u71, u72, u73, u74, u75, u76, u77, u78, u79, u80, u81, u82, u83, u84, u85, u86, u87, u88, u89, u90, u91, u92, u93, u94, u95, u96, u97, u98, u99, u100, u101, u102, u103, u104, u105, u106, u107, u108, u109, u110, u111, u112, u113, u114, u115, u116, u117, u118, u119, u120, u121, u122, .bool true, u124, x125, x126, x127, x128, x129, x130, x131, x132, x133, x134, x135, x136, x137, x138, x139, x140, x141, x142, x143, x144, x145, x146, u147, u148, u149, u150, u151, u152, u153, u154, u155, u156, u157, u158, u159, u160, u161, u162, u163, u164, u165, u166, u167, u168, u169, u170, u171, u172, u173, u174, u175, u176, u177, u178, u179, u180, u181, u182, u183, u184, u185, u186, u187, u188, u189, u190, u191, u192, u193, u194, u195, u196, u197, u198, u199, u200, u201, u202, u203, u204, u205, u206, u207, u208, u209], []⟩ wd) :
    (ifOf Try.f9 123).wp Try.prog Q ⟨#[u0, u1, u2, u3, u4, .pointer (some ⟨xb, 0, none⟩), u6, .pointer (some ⟨yb, 0, none⟩), u8, u9, .pointer (some ⟨ob, 0, none⟩), .bool true, u12, u13, u14, u15, u16, u17, u18, u19, u20, u21, u22, u23, u24, u25, u26, u27, u28, u29, u30, u31, u32, u33, u34, u35, u36, u37, u38, u39, u40, u41, u42, u43, u44, u45, u46, u47, u48, u49, u50, u51, u52, u53, u54, u55, u56, u57, u58, u59, u60, u61, u62, u63, u64, u65, u66, u67, u68, u69, u70, u71, u72, u73, u74, u75, u76, u77, u78, u79, u80, u81, u82, u83, u84, u85, u86, u87, u88, u89, u90, u91, u92, u93, u94, u95, u96, u97, u98, u99, u100, u101, u102, u103, u104, u105, u106, u107, u108, u109, u110, u111, u112, u113, u114, u115, u116, u117, u118, u119, u120, u121, u122, .bool true, u124, u125, u126, u127, u128, u129, u130, u131, u132, u133, u134, u135, u136, u137, u138, u139, u140, u141, u142, u143, u144, u145, u146, u147, u148, u149, u150, u151, u152, u153, u154, u155, u156, u157, u158, u159, u160, u161, u162, u163, u164, u165, u166, u167, u168, u169, u170, u171, u172, u173, u174, u175, u176, u177, u178, u179, u180, u181, u182, u183, u184, u185, u186, u187, u188, u189, u190, u191, u192, u193, u194, u195, u196, u197, u198, u199, u200, u201, u202, u203, u204, u205, u206, u207, u208, u209], []⟩ w := by
  have HQ := Lib.hid hK
  clear hK
  have o1 := cell_of_row _ _ 1 _ _ _ OP.out
  conv => arg 2; whnf
  go_wp2_with fail
  refine (idx_find base xb nx cx X ax lsn w (Lib.hid P.out.x) ok).mono ?_
  rintro e w2 ⟨en, t, hI, rfl, hb⟩
  have I2 := Lib.hid hI
  have bE := below_alloc w2 (.cells #[.int .i64 en.lsn, .int .i64 en.off] 64)
  have nE := heap_alloc_new w2 (.cells #[.int .i64 en.lsn, .int .i64 en.off] 64)
  obtain ⟨w3, hw3⟩ : ∃ w3, w2.alloc (.cells #[.int .i64 en.lsn, .int .i64 en.off] 64) = w3 := ⟨_, rfl⟩
  rw [hw3] at bE nE
  have B3 := Lib.hid (below_trans hb bE)
  have E3 := Lib.hid nE
  have P3 := Lib.hid (P.out.on B3.out)
  clear hI hb bE nE
  have o1 := cell_of_row _ _ 1 _ _ _ ((B3.out.block _ (heap_lt OP.out)).trans OP.out)
  try dsimp only
  go_wp2_with fail
  refine (ref_find base yb ny cy X ay lsn w3 (Lib.hid P3.out.y) ok).mono ?_
  rintro e w4 ⟨en2, t2, hI, rfl, hb⟩
  obtain ⟨rfl, rfl⟩ := hI.uniq I2.out
  have bE := below_alloc w4 (.cells #[.int .i64 en2.lsn, .int .i64 en2.off] 64)
  have nE := heap_alloc_new w4 (.cells #[.int .i64 en2.lsn, .int .i64 en2.off] 64)
  obtain ⟨w5, hw5⟩ : ∃ w5, w4.alloc (.cells #[.int .i64 en2.lsn, .int .i64 en2.off] 64) = w5 := ⟨_, rfl⟩
  rw [hw5] at bE nE
  have B5 := Lib.hid (below_trans hb bE)
  have E5 := Lib.hid nE
  have F5 := Lib.hid ((B5.out.block _ (heap_lt E3.out)).trans E3.out)
  have P5 := Lib.hid (P3.out.on B5.out)
  clear hI hb bE nE
  have e0 := cell_of_row _ _ 0 _ _ _ E5.out
  have e1 := cell_of_row _ _ 1 _ _ _ E5.out
  have f0 := cell_of_row _ _ 0 _ _ _ F5.out
  have f1 := cell_of_row _ _ 1 _ _ _ F5.out
  try dsimp only
  go_wp2_with fail
  exact HQ.out _ _ _ _ _ _ _ _ _ _ _ _ _ _ _ _ _ _ _ _ _ _ _ _ _ _ _ P5.out

set_option maxHeartbeats 8000000 in
set_option maxRecDepth 100000 in
theorem all_save (base ob xb nx cx yb ny cy : Nat) (X : IdxV) (ax ay : Option Addr) (w1 w : World) (Q : Exit → Act → World → Prop)
    (u0 u1 u2 u3 u4 u6 u8 u9 u12 u13 u14 u15 u16 u17 u18 u19 u20 u21 u22 u23 u24 u25 u26 u27 u28 u29 u30 u31 u32 u33 u34 u35 u36 u37 u38 u39 u40 u41 u42 u43 u44 u45 u46 u47 u48 u49 u50 u51 u52 u53 u54 u55 u56 u57 u58 u59 u60 u61 u62 u63 u64 u65 u66 u67 u68 u69 u70 u71 u72 u73 u74 u75 u76 u77 u78 u79 u80 u81 u82 u83 u84 u85 u86 u87 u88 u89 u90 u91 u92 u93 u94 u95 u96 u97 u98 u99 u100 u101 u102 u103 u104 u105 u106 u107 u108 u109 u110 u111 u112 u113 u114 u115 u116 u117 u118 u119 u120 u121 u122 u123 u124 u125 u126 u127 u128 u129 u130 u131 u132 u133 u134 u135 u136 u137 u138 u139 u140 u141 u142 u143 u144 u145 u146 u147 u148 u149 u150 u151 u152 u153 u154 u155 u156 u157 u159 u160 u161 u162 u163 u164 u165 u166 u167 u168 u169 u170 u171 u172 u173 u174 u175 u176 u177 u178 u179 u180 u181 u182 u183 u184 u185 u186 u187 u188 u189 u190 u191 u192 u193 u194 u195 u196 u197 u198 u199 u200 u201 u202 u203 u204 u205 u206 u207 u208 u209 : Value)
    (ok : Hid (IdxOk X)) (P : Hid (PairR w1 base xb yb X ax nx cx X ay ny cy w))
    (hK : ∀ (wd : World) (X' : IdxV) (xb' yb' : Nat) (ax' : Option Addr) (nx' cx' : Nat) (ay' : Option Addr) (ny' cy' : Nat) (x6 x8 x160 x161 x162 x163 x164 x165 x166 x167 x168 x169 x170 x171 x172 x173 x174 x175 x176 x177 x178 x179 x180 x181 x182 : Value), IdxOk X' → PairR w1 base xb' yb' X' ax' nx' cx' X' ay' ny' cy' wd → Q .normal ⟨#[u0, u1, u2, u3, u4, .pointer (some ⟨xb', 0, none⟩), x6, .pointer (some ⟨yb', 0, none⟩), x8, u9, .pointer (some ⟨ob, 0, none⟩), .bool true, u12, u13, u14, u15, u16, u17, u18, u19, u20, u21, u22, u23, u24, u25, u26, u27, u28, u29, u30, u31, u32, u33, u34, u35, u36, u37, u38, u39, u40, u41, u42, u43, u44, u45, u46, u47, u48, u49, u50, u51, u52, u53, u54, u55, u56, u57, u58, u59, u60, u61, u62, u63, u64, u65, u66, u67, u68, u69, u70, u71, u72, u73, u74, u75, u76, u77, u78, u79, u80, u81, u82, u83, u84, u85, u86, u87, u88, u89, u90, u91, u92, u93, u94, u95, u96, u97, u98, u99, u100, u101, u102, u103, u104, u105, u106, u107, u108, u109, u110, u111, u112, u113, u114, u115, u116, u117, u118, u119, u120, u121, u122, u123, u124, u125, u126, u127, u128, u129, u130, u131, u132, u133, u134, u135, u136, u137, u138, u139, u140, u141, u142, u143, u144, u145, u146, u147, u148, u149, u150, u151, u152, u153, u154, u155, u156, u157, .bool true, u159, x160, x161, x162, x163, x164, x165, x166, x167, x168, x169, x170, x171, x172, x173, x174, x175, x176, x177, x178, x179, x180, x181, x182, u183, u184, u185, u186, u187, u188, u189, u190, u191, u192, u193, u194, u195, u196, u197, u198, u199, u200, u201, u202, u203, u204, u205, u206, u207, u208, u209], []⟩ wd) :
    (ifOf Try.f9 158).wp Try.prog Q ⟨#[u0, u1, u2, u3, u4, .pointer (some ⟨xb, 0, none⟩), u6, .pointer (some ⟨yb, 0, none⟩), u8, u9, .pointer (some ⟨ob, 0, none⟩), .bool true, u12, u13, u14, u15, u16, u17, u18, u19, u20, u21, u22, u23, u24, u25, u26, u27, u28, u29, u30, u31, u32, u33, u34, u35, u36, u37, u38, u39, u40, u41, u42, u43, u44, u45, u46, u47, u48, u49, u50, u51, u52, u53, u54, u55, u56, u57, u58, u59, u60, u61, u62, u63, u64, u65, u66, u67, u68, u69, u70, u71, u72, u73, u74, u75, u76, u77, u78, u79, u80, u81, u82, u83, u84, u85, u86, u87, u88, u89, u90, u91, u92, u93, u94, u95, u96, u97, u98, u99, u100, u101, u102, u103, u104, u105, u106, u107, u108, u109, u110, u111, u112, u113, u114, u115, u116, u117, u118, u119, u120, u121, u122, u123, u124, u125, u126, u127, u128, u129, u130, u131, u132, u133, u134, u135, u136, u137, u138, u139, u140, u141, u142, u143, u144, u145, u146, u147, u148, u149, u150, u151, u152, u153, u154, u155, u156, u157, .bool true, u159, u160, u161, u162, u163, u164, u165, u166, u167, u168, u169, u170, u171, u172, u173, u174, u175, u176, u177, u178, u179, u180, u181, u182, u183, u184, u185, u186, u187, u188, u189, u190, u191, u192, u193, u194, u195, u196, u197, u198, u199, u200, u201, u202, u203, u204, u205, u206, u207, u208, u209], []⟩ w := by
  have HQ := Lib.hid hK
  have LB := Lib.hid (idxB_len ok.out)
  have HB := Lib.hid (idxR_back ok.out)
  clear hK
  conv => arg 2; whnf
  go_wp2_with fail
  refine (idx_bytes base xb nx cx X ax w (Lib.hid P.out.x) ok).mono ?_
  rintro e w2 ⟨v2, rfl, ho, hb⟩
  obtain ⟨a2, c2, rfl, x2, n2, l2, m2, -⟩ := ho.slice
  have B2 := Lib.hid hb
  have X2 := Lib.hid x2
  have L2 := Lib.hid l2
  clear ho hb x2 n2 l2 m2
  go_wp2_with fail
  refine (idx_load a2 (idxB X) _ c2 w2 X2.out rfl L2.out (by have := LB.out; omega)).mono ?_
  rw [HB.out]
  rintro e w3 (⟨h0, -⟩ | ⟨-, hok, xb', ax', nx', cx', rfl, hat, hb⟩)
  · exact absurd rfl h0
  · have OK := Lib.hid hok.ok
    have X3 := Lib.hid hat
    have B3 := Lib.hid (below_trans B2.out hb)
    have P3 := Lib.hid (P.out.on B3.out)
    clear hok hat hb X2 L2
    try dsimp only
    go_wp2_with fail
    refine (ref_bytes base yb ny cy X ay w3 (Lib.hid P3.out.y) ok).mono ?_
    rintro e w4 ⟨v4, rfl, ho, hb⟩
    obtain ⟨a4, c4, rfl, x4, n4, l4, m4, -⟩ := ho.slice
    have B4 := Lib.hid (below_trans B3.out hb)
    have X4 := Lib.hid x4
    have L4 := Lib.hid l4
    have M4 := Lib.hid m4
    have Y4 := Lib.hid (X3.out.keep hb)
    clear ho hb x4 n4 l4 m4
    go_wp2_with fail
    refine (ref_load a4 (idxB X) _ c4 w4 X4.out rfl L4.out M4.out (by have := LB.out; omega)).mono ?_
    rw [HB.out]
    rintro e w5 (⟨h0, -⟩ | ⟨-, -, yb', ay', ny', cy', rfl, hat, hb⟩)
    · exact absurd rfl h0
    · have B5 := Lib.hid (below_trans B4.out hb)
      have Y5 := Lib.hid (Y4.out.keep hb)
      have P5 := Lib.hid (show PairR w1 base xb' yb' (savedV X) ax' nx' cx' (savedV X) ay' ny' cy' w5 from ⟨Y5.out.base (by have := P.out.size; have := B2.out.size; omega), hat.base (by have := P.out.size; have := B4.out.size; omega), fun j hj e => by
        have h1 := (rows_blk hat.own hj).1
        obtain ⟨-, c, h2⟩ := held_blk Y4.out.held e
        have := heap_lt h2
        omega, P.out.low.trans (B5.out.mono P.out.size)⟩)
      clear hat hb X4 L4 M4
      try dsimp only
      go_wp2_with fail
      exact HQ.out _ _ _ _ _ _ _ _ _ _ _ _ _ _ _ _ _ _ _ _ _ _ _ _ _ _ _ _ _ _ _ _ _ _ _ OK.out P5.out
end Go.Proofs.Ytmkljmljbbijeaa

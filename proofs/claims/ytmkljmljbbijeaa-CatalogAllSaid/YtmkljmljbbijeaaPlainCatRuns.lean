/- A log that begins, rolls and is cut as it goes, in plain words. -/
import Derived.Test.YtmkljmljbbijeaaCatCut
import Derived.Test.YtmkljmljbbijeaaCatBegun
import Derived.Test.YtmkljmljbbijeaaOpenCats
import Derived.Test.YtmkljmljbbijeaaPiece
namespace Go.Proofs.Ytmkljmljbbijeaa
open Go.RowKit

/-- A catalog that may be, its numbers not beyond these. -/
structure RunC (g f nn b : Int) (c : CatV) : Prop where
  may : MayC c
  gen : c.gen ≤ g
  first : c.first ≤ f
  num : (lastS c).num ≤ nn
  base : (lastS c).base ≤ b
theorem RunC.mono {g f nn b g' f' nn' b' : Int} {c : CatV} (h : RunC g f nn b c) (h1 : g ≤ g') (h2 : f ≤ f') (h3 : nn ≤ nn') (h4 : b ≤ b') : RunC g' f' nn' b' c :=
  ⟨h.may, by have := h.gen; omega, by have := h.first; omega, by have := h.num; omega, by have := h.base; omega⟩
theorem run_one {b : Int} (h : 1 ≤ b) : RunC 1 b 1 b ⟨1, b, [⟨1, b, 0#32, 0, 0⟩]⟩ :=
  ⟨⟨by show (1 : Int) ≤ 1; decide, h, by simp, by simp, ⟨by simp [nthS], by simpa [nthS] using h, by simp [nthS], by simp [nthS]⟩, fun i hi => absurd hi (by simp), by simp [nthS], .inl rfl⟩, by simp, by simp, by simp [lastS, nthS], by simp [lastS, nthS]⟩
theorem roll_len (c : CatV) (en size : Int) (seed : BitVec 32) : (rollC c en size seed).segs.length = c.segs.length + 1 := by simp [rollC, sealS]
theorem roll_new (c : CatV) (en size : Int) (seed : BitVec 32) : nthS (rollC c en size seed).segs c.segs.length = ⟨(lastS c).num + 1, en, seed, 0, 0⟩ := by
  have h : (sealS c.segs (c.segs.length - 1) en size).length = c.segs.length := sealS_length _ _ _ _
  unfold rollC nthS
  dsimp only
  rw [List.getD_eq_getElem?_getD, List.getElem?_append_right (by omega), h, Nat.sub_self]
  rfl
theorem roll_old {c : CatV} (h1 : 1 ≤ c.segs.length) (en size : Int) (seed : BitVec 32) : (nthS (rollC c en size seed).segs (c.segs.length - 1)).end_ = en := by
  have h : (sealS c.segs (c.segs.length - 1) en size).length = c.segs.length := sealS_length _ _ _ _
  have e : nthS (rollC c en size seed).segs (c.segs.length - 1) = nthS (sealS c.segs (c.segs.length - 1) en size) (c.segs.length - 1) := by
    unfold rollC nthS
    dsimp only
    rw [List.getD_eq_getElem?_getD, List.getElem?_append_left (by omega), ← List.getD_eq_getElem?_getD]
  rw [e, nthS_seal _ _ _ (by omega), if_pos rfl]
theorem roll_last (c : CatV) (en size : Int) (seed : BitVec 32) : lastS (rollC c en size seed) = ⟨(lastS c).num + 1, en, seed, 0, 0⟩ := by
  show nthS _ ((rollC c en size seed).segs.length - 1) = _
  rw [roll_len, Nat.add_sub_cancel, roll_new]
theorem RunC.roll {g f nn b b' : Int} {c r : CatV} {en size : Int} {seed : BitVec 32} (h : RunC g f nn b c) (hR : RollIs c en size seed r 0) (he : en ≤ b') :
    r = rollC c en size seed ∧ RunC (g + 1) f (nn + 1) b' (rollC c en size seed) := by
  rcases hR with ⟨-, -, h3⟩ | ⟨-, -, -, h4⟩ | ⟨-, -, -, -, h5⟩ | ⟨h1, h2, h3, h4, -⟩
  · exact absurd h3 (by decide)
  · exact absurd h4 (by decide)
  · exact absurd h5 (by decide)
  · refine ⟨h4, h3.2.2, ?_, h.first, ?_, ?_⟩
    · have := h.gen; show c.gen + 1 ≤ _; omega
    · rw [roll_last]; have := h.num; show (lastS c).num + 1 ≤ _; omega
    · rw [roll_last]; exact he
theorem nthS_drop (L : List SegV) (k i : Nat) : nthS (L.drop k) i = nthS L (k + i) := by simp [nthS]
theorem cut_last {c : CatV} {lsn : Int} {k : Nat} (h : k + 1 ≤ c.segs.length) : lastS (cutC c lsn k) = lastS c := by
  show nthS (c.segs.drop k) ((c.segs.drop k).length - 1) = nthS c.segs (c.segs.length - 1)
  rw [nthS_drop, List.length_drop]
  congr 1
  omega
theorem RunC.cut {g f nn b f' : Int} {c r : CatV} {nums : List Int} {lsn : Int} (h : RunC g f nn b c) (hC : CutIs c lsn r nums 0) (hl : lsn ≤ f') :
    ∃ k, CutK c lsn k ∧ r = cutC c lsn k ∧ nums = numsC c.segs k ∧ RunC (g + 1) f' nn b (cutC c lsn k) := by
  rcases hC with ⟨-, -, -, h4⟩ | ⟨k, -, -, -, -, -, h5⟩ | ⟨k, hk, -, h2, h3, h4, -⟩
  · exact absurd h4 (by decide)
  · exact absurd h5 (by decide)
  · refine ⟨k, hk, h3, h4, h2.2.2, ?_, hl, ?_, ?_⟩
    · have := h.gen; show c.gen + 1 ≤ _; omega
    · rw [cut_last hk.1]; exact h.num
    · rw [cut_last hk.1]; exact h.base
/-- Which are below. -/
theorem below_yes {c : CatV} {lsn : Int} {kk k : Nat} (h : MayC c) (hk : CutK c lsn kk) (hlt : k < kk) : (nthS c.segs k).end_ ≠ 0 ∧ (nthS c.segs k).end_ ≤ lsn ∧ 1 ≤ (nthS c.segs k).end_ := by
  have h1 := (h.link k (by have := hk.1; omega)).1
  have h2 := hk.2.1 k hlt
  have h3 := h1.2.1
  have h4 := h1.2.2.1
  omega
theorem below_no {c : CatV} {lsn : Int} {kk k : Nat} (h : MayC c) (hk : CutK c lsn kk) (hge : kk ≤ k) (hl : k < c.segs.length) : (nthS c.segs k).end_ = 0 ∨ lsn < (nthS c.segs k).end_ := by
  rcases Nat.lt_or_ge (k + 1) c.segs.length with h1 | h1
  · right
    have h2 := hk.2.2 (by omega)
    have h3 := (h.link k h1).1.2.2.1
    rcases Nat.lt_or_ge kk k with h4 | h4
    · have h5 := (h.link kk (by omega)).2.2.2
      have h6 := h.rise (k - (kk + 1)) (kk + 1) (by omega)
      rw [show kk + 1 + (k - (kk + 1)) = k by omega] at h6
      omega
    · obtain rfl : k = kk := by omega
      exact h2
  · left
    obtain rfl : k = c.segs.length - 1 := by omega
    exact h.last.2.2.1
theorem numsC_at {L : List SegV} {kk k : Nat} (hk : k < kk) (hl : k < L.length) : (numsC L kk).getD k 0 = (nthS L k).num := by
  simp [numsC, nthS, List.getD_eq_getElem?_getD, hk, hl]
/-- Numbers of the call's own are there. -/
theorem OwnI.there {w : World} {base : Nat} {v : Value} {l : List Int} (h : OwnI w base v l) : ∃ ao ca, v = .slice ao l.length ca ∧ ∀ i, i < l.length → ∃ g, ao = some ⟨g, 0, none⟩ ∧ base ≤ g ∧ g < w.heap.size ∧ w.cell? ⟨g, i, none⟩ = some (.int .i64 (l.getD i 0)) ∧ w.frozen? ⟨g, i, none⟩ = false := by
  rcases h.2 with ⟨rfl, h0⟩ | ⟨g, cap, cur, rfl, hb, hc, hle, -, hsz, htk⟩
  · exact ⟨none, 0, by rw [h0], fun i hi => absurd hi (by omega)⟩
  · refine ⟨some ⟨g, 0, none⟩, cap, rfl, fun i hi => ⟨g, rfl, hb, heap_lt hc, ?_, frozen_of_row _ _ _ _ _ hc⟩⟩
    have h1 : (cur.toList.take l.length)[i]? = (ints l)[i]? := by rw [← htk, Nat.mul_one]
    rw [List.getElem?_take, if_pos hi] at h1
    rw [cell_of_row _ _ _ _ _ _ hc, ← Array.getElem?_toList, h1]
    simp [ints, hi, List.getD_eq_getElem?_getD]
end Go.Proofs.Ytmkljmljbbijeaa

/-! flumelaw10.CatalogRuns: a round's first half: what was rolled. -/
namespace Go.Proofs.Ytmkljmljbbijeaa
open Go.RowKit

/-- The catalog of the run, in its box. -/
structure RunW (cb : Nat) (wr : World) (c : CatV) (ao : Option Addr) (n ca : Nat) : Prop where
  box : wr.heap[cb]? = some (.cells #[.int .i64 c.gen, .int .i64 c.first, .slice ao n ca] 29 (0, 0))
  there : CatAt wr (.agg #[.int .i64 c.gen, .int .i64 c.first, .slice ao n ca]) c
  ne : ∀ b off, ao = some ⟨b, off, none⟩ → b ≠ cb
  len : c.segs.length = n
theorem RunW.keep {cb : Nat} {w w' : World} {c : CatV} {ao : Option Addr} {n ca : Nat} (h : RunW cb w c ao n ca) (hb : Below w.heap.size w w') : RunW cb w' c ao n ca :=
  ⟨(hb.block _ (heap_lt h.box)).trans h.box, h.there.below hb, h.ne, h.len⟩
theorem CatAt.segs {w : World} {c : CatV} {g f : Int} {ao : Option Addr} {n ca : Nat} (h : CatAt w (.agg #[.int .i64 g, .int .i64 f, .slice ao n ca]) c) : SegsAt w ao c.segs ∧ (ao = none → ca = 0) ∧ n ≤ ca ∧ c.segs.length = n ∧ n ≤ 140737488355328 := by
  obtain ⟨ao', ca', e1, hsg, hle, hcm, hnil⟩ := h.shape
  injection e1 with e1
  simp only [Array.mk.injEq, List.cons.injEq, Value.slice.injEq, and_true] at e1
  obtain ⟨-, -, rfl, h2, rfl⟩ := e1
  exact ⟨hsg, hnil, by omega, h2.symm, by omega⟩
/-- A new catalog is laid into the box. -/
theorem CatOwn.laid {w : World} {base cb : Nat} {g f : Int} {ao : Option Addr} {n ca : Nat} {c : CatV} {a0 a1 a2 : Value} (h : CatOwn w base (.agg #[.int .i64 g, .int .i64 f, .slice ao n ca]) c) (hb : w.heap[cb]? = some (.cells #[a0, a1, a2] 29 (0, 0))) (hlt : cb < base) :
    RunW cb (((w.setCell ⟨cb, 0, none⟩ (.int .i64 g)).setCell ⟨cb, 1, none⟩ (.int .i64 f)).setCell ⟨cb, 2, none⟩ (.slice ao n ca)) c ao n ca := by
  obtain ⟨vs, e, ho⟩ := h.own
  injection e with e
  simp only [Array.mk.injEq, List.cons.injEq, Value.int.injEq, and_true, true_and] at e
  obtain ⟨rfl, rfl, rfl⟩ := e
  have ho' : OwnS (((w.setCell ⟨cb, 0, none⟩ (.int .i64 c.gen)).setCell ⟨cb, 1, none⟩ (.int .i64 c.first)).setCell ⟨cb, 2, none⟩ (.slice ao n ca)) base (.slice ao n ca) c.segs :=
    rows_congr ho fun k hk => put3_off (by have := (rows_blk ho hk).1; omega) _ _ _
  have hA := CatAt.of_own (gen := c.gen) (first := c.first) ho' h.ok.segs h.few h.ok.gen h.ok.first
  refine ⟨put3 hb _ _ _, hA, fun b off e2 => ?_, hA.segs.2.2.2.1⟩
  rcases ho.2 with ⟨h0, -⟩ | ⟨g', cap, cur, hv, hg, -⟩
  · injection h0 with h0; rw [h0] at e2; cases e2
  · injection hv with hv; rw [hv] at e2; injection e2 with e2; injection e2 with e2; omega
theorem CatOwn.move {w w' : World} {base : Nat} {v : Value} {c : CatV} (h : CatOwn w base v c) (hm : ∀ k, base ≤ k → w'.heap[k]? = w.heap[k]?) : CatOwn w' base v c := by
  obtain ⟨vs, rfl, ho⟩ := h.own
  exact ⟨⟨vs, rfl, rows_congr ho fun k hk => hm k (rows_blk ho hk).1⟩, h.ok, h.few⟩
theorem OwnI.move {w w' : World} {base : Nat} {v : Value} {l : List Int} (h : OwnI w base v l) (hm : ∀ k, base ≤ k → w'.heap[k]? = w.heap[k]?) : OwnI w' base v l :=
  rows_congr h fun k hk => hm k (rows_blk h hk).1
theorem SegsAt.move {w w' : World} {ao : Option Addr} {L : List SegV} (h : SegsAt w ao L) (hm : ∀ b off, ao = some ⟨b, off, none⟩ → w'.heap[b]? = w.heap[b]?) : SegsAt w' ao L := fun i hi => by
  obtain ⟨ok, b, off, e, hc⟩ := h i hi
  have hb := hm b off e
  exact ⟨ok, b, off, e, (World.cell?_of_block (a := ⟨b, _, none⟩) hb).trans hc.c0, (World.cell?_of_block (a := ⟨b, _, none⟩) hb).trans hc.c1, (World.cell?_of_block (a := ⟨b, _, none⟩) hb).trans hc.c2, (World.cell?_of_block (a := ⟨b, _, none⟩) hb).trans hc.c3, (World.cell?_of_block (a := ⟨b, _, none⟩) hb).trans hc.c4⟩
theorem RunW.move {cb : Nat} {w w' : World} {c : CatV} {ao : Option Addr} {n ca : Nat} (h : RunW cb w c ao n ca) (hb : w'.heap[cb]? = w.heap[cb]?) (hm : ∀ b off, ao = some ⟨b, off, none⟩ → w'.heap[b]? = w.heap[b]?) : RunW cb w' c ao n ca := by
  refine ⟨hb.trans h.box, ⟨?_, h.there.gen, h.there.first⟩, h.ne, h.len⟩
  obtain ⟨ao', ca', e, hs, r⟩ := h.there.shape
  have e2 := e
  injection e2 with e2
  simp only [Array.mk.injEq, List.cons.injEq, Value.slice.injEq, and_true, true_and] at e2
  obtain ⟨rfl, -, rfl⟩ := e2
  exact ⟨_, _, e, hs.move hm, r⟩
theorem CatAt.low {w : World} {c : CatV} {g f : Int} {ao : Option Addr} {n ca : Nat} (h : CatAt w (.agg #[.int .i64 g, .int .i64 f, .slice ao n ca]) c) (h1 : 1 ≤ n) : ∀ b off, ao = some ⟨b, off, none⟩ → b < w.heap.size := fun b off e => by
  obtain ⟨hs, -, -, hl, -⟩ := h.segs
  obtain ⟨-, b', off', e', hc⟩ := hs 0 (by omega)
  rw [e] at e'
  injection e' with e'
  injection e' with e1 e2
  rw [e1]
  exact block_lt_of_cell hc.c0


/-- What holds at the round's middle. -/
structure RunM (k cb ob db : Nat) (O : COpV) (w0 wc : World) (g f : Int) (ao : Option Addr) (n ca : Nat) (S : List SegV) : Prop where
  run : RunC (2 + 2 * (k : Int)) (1152921504606846976 + 500 * (k : Int)) (2 + (k : Int)) (1152921504606846976 + 1000 * (k : Int) + 1000) ⟨g, f, S⟩
  at' : RunW cb wc ⟨g, f, S⟩ ao n ca
  low : Below w0.heap.size w0 wc
  op : wc.heap[ob]? = some (.cells #[.int .i64 O.lsn, .int .i64 O.end_, .int .i64 O.size, .int .u32 (bv O.seed)] 25 (0, 0))
  box : ∃ x y z, wc.heap[db]? = some (.cells #[x, y, z] 29 (0, 0))
  segs : ∀ b off, ao = some ⟨b, off, none⟩ → b < db

set_option maxHeartbeats 16000000 in
set_option maxRecDepth 100000 in
theorem runs_rolled (k m cb ob lb db base' ca cr : Nat) (g f ol oe os : Int) (od : BitVec 32) (ao ar : Option Addr) (S : List SegV) (r : CatV) (w0 w7 : World) (K : Act → World → Prop) (Q' : Exit → Act → World → Prop)
    (u0 u1 u2 u3 u4 u6 u10 u11 u12 u13 u14 u15 u16 u17 u18 u19 u20 u21 u22 u23 u24 u25 u26 u27 u28 u29 u30 u31 u32 u33 u34 u35 u36 u37 u38 u39 u40 u41 u42 u43 u44 u45 u46 u47 u48 u49 u50 u51 u52 u53 u54 u55 u56 u57 u58 u59 u60 u61 u62 u63 u64 u65 u66 u67 u68 u69 u70 u71 u72 u74 u75 u76 u77 u78 u79 u80 u81 u82 u83 u84 u85 u86 u87 u88 u89 u90 u91 u92 u93 u94 u95 u96 u97 u98 u99 u100 u101 u102 u103 u104 u105 u106 u107 u108 u109 u110 u111 u112 u113 u114 u115 u116 u117 u118 u119 u120 u121 u122 u123 u124 u125 u126 u127 u128 u129 u130 u131 u132 u133 u134 u135 u136 u137 u138 u139 u140 u141 u142 u143 u144 u145 u146 u147 u148 u149 u150 u151 u152 u153 u154 u155 u156 u157 u158 u159 u160 u161 u162 u163 u164 u165 u166 u167 u168 u169 u170 u171 u172 u173 u174 u175 u176 u177 u178 u179 u180 u181 u182 u183 u184 u185 u186 u187 u188 u189 u190 u191 u192 u193 u194 u195 u196 u197 u198 u199 u200 u201 u202 u203 u204 u205 u206 u207 u208 u209 u210 u211 u212 u213 u214 u215 u216 u217 u218 u219 u220 u221 u222 u223 u224 u225 u226 u227 u228 u229 u230 u231 u232 u233 u234 u235 u236 u237 u238 u239 u240 u241 u242 u243 u244 u245 u246 u247 u248 u249 u250 u251 u252 u253 : Value)
    (hk : k < 100) (HR : Hid (RunC (1 + 2 * (k : Int)) (1152921504606846976 + 500 * (k : Int)) (1 + (k : Int)) (1152921504606846976 + 1000 * (k : Int)) ⟨g, f, S⟩)) (HN : Hid (S.length = m + 1)) (n64 : m + 1 ≤ 64) (HLS : Hid (lastS ⟨g, f, S⟩ = nthS S m))
    (qe1 : -1000 < oe.tmod 1000) (qe2 : oe.tmod 1000 < 1000)
    (hb1 : (nthS S m).base ≤ 1152921504606846976 + 1000 * (k : Int)) (hb0 : 1 ≤ (nthS S m).base)
    (HI : Hid (RollIs ⟨g, f, S⟩ ((nthS S m).base + oe.tmod 1000) (32 + os.tmod 100000) od r 0))
    (W7 : Hid (RunW cb w7 ⟨g, f, S⟩ ao (m + 1) ca)) (R7 : Hid (CatOwn w7 base' (.agg #[.int .i64 r.gen, .int .i64 r.first, .slice ar r.segs.length cr]) r)) (LR : Hid (1 ≤ r.segs.length → ∀ b off, ar = some ⟨b, off, none⟩ → b < db))
    (N7 : Hid (w7.heap[lb]? = some (.cells #[.int .i64 (nthS S m).num, .int .i64 (nthS S m).base, .int .u32 (bv (nthS S m).seed), .int .i64 (nthS S m).end_, .int .i64 (nthS S m).size] 53 (0, 0))))
    (O7 : Hid (w7.heap[ob]? = some (.cells #[.int .i64 ol, .int .i64 oe, .int .i64 os, .int .u32 (bv od)] 25 (0, 0))))
    (D7 : Hid (w7.heap[db]? = some (.cells #[.int .i64 r.gen, .int .i64 r.first, .slice ar r.segs.length cr] 29 (0, 0))))
    (B7 : Hid (Below w0.heap.size w0 w7)) (CB : Hid (w0.heap.size ≤ cb)) (LB : Hid (cb < base')) (NO : Hid (cb ≠ ob)) (ND : Hid (cb ≠ db))
    (hK : ∀ (g f : Int) (ao : Option Addr) (n ca : Nat) (S : List SegV) (wd : World) (x4 x11 x74 x75 x76 x77 x78 x79 x80 x81 x82 x83 x84 x85 x86 x87 x88 x89 x90 x91 x92 x93 x94 x95 x96 x97 x98 x99 x100 x101 x102 x103 x104 x105 x106 x107 x108 x109 x110 x111 x112 x113 x114 x115 x116 x117 x118 x119 x120 x121 x122 x123 x124 x125 x126 x127 x128 x129 x130 x131 x132 x133 x134 x135 x136 x137 : Value), RunM k cb ob db ⟨ol, oe, os, od⟩ w0 wd g f ao n ca S → K ⟨#[u0, u1, u2, u3, x4, .pointer (some ⟨cb, 0, none⟩), u6, .pointer (some ⟨ob, 0, none⟩), .pointer (some ⟨lb, 0, none⟩), .pointer (some ⟨db, 0, none⟩), u10, x11, u12, u13, u14, u15, u16, u17, u18, u19, u20, u21, u22, u23, u24, u25, u26, u27, u28, u29, u30, u31, u32, u33, u34, u35, u36, u37, u38, u39, u40, u41, u42, u43, u44, u45, u46, u47, u48, u49, u50, u51, u52, u53, u54, u55, u56, u57, u58, u59, u60, u61, u62, u63, u64, u65, u66, u67, u68, u69, u70, u71, u72, .bool true, x74, x75, x76, x77, x78, x79, x80, x81, x82, x83, x84, x85, x86, x87, x88, x89, x90, x91, x92, x93, x94, x95, x96, x97, x98, x99, x100, x101, x102, x103, x104, x105, x106, x107, x108, x109, x110, x111, x112, x113, x114, x115, x116, x117, x118, x119, x120, x121, x122, x123, x124, x125, x126, x127, x128, x129, x130, x131, x132, x133, x134, x135, x136, x137, u138, u139, u140, u141, u142, u143, u144, u145, u146, u147, u148, u149, u150, u151, u152, u153, u154, u155, u156, u157, u158, u159, u160, u161, u162, u163, u164, u165, u166, u167, u168, u169, u170, u171, u172, u173, u174, u175, u176, u177, u178, u179, u180, u181, u182, u183, u184, u185, u186, u187, u188, u189, u190, u191, u192, u193, u194, u195, u196, u197, u198, u199, u200, u201, u202, u203, u204, u205, u206, u207, u208, u209, u210, u211, u212, u213, u214, u215, u216, u217, u218, u219, u220, u221, u222, u223, u224, u225, u226, u227, u228, u229, u230, u231, u232, u233, u234, u235, u236, u237, u238, u239, u240, u241, u242, u243, u244, u245, u246, u247, u248, u249, u250, u251, u252, u253], []⟩ wd) :
    (ifOf Try.f5 73).wp Try.prog (Exit.then K Q') ⟨#[u0, u1, u2, u3, u4, .pointer (some ⟨cb, 0, none⟩), u6, .pointer (some ⟨ob, 0, none⟩), .pointer (some ⟨lb, 0, none⟩), .pointer (some ⟨db, 0, none⟩), u10, u11, u12, u13, u14, u15, u16, u17, u18, u19, u20, u21, u22, u23, u24, u25, u26, u27, u28, u29, u30, u31, u32, u33, u34, u35, u36, u37, u38, u39, u40, u41, u42, u43, u44, u45, u46, u47, u48, u49, u50, u51, u52, u53, u54, u55, u56, u57, u58, u59, u60, u61, u62, u63, u64, u65, u66, u67, u68, u69, u70, u71, u72, .bool true, u74, u75, u76, u77, u78, u79, u80, u81, u82, u83, u84, u85, u86, u87, u88, u89, u90, u91, u92, u93, u94, u95, u96, u97, u98, u99, u100, u101, u102, u103, u104, u105, u106, u107, u108, u109, u110, u111, u112, u113, u114, u115, u116, u117, u118, u119, u120, u121, u122, u123, u124, u125, u126, u127, u128, u129, u130, u131, u132, u133, u134, u135, u136, u137, u138, u139, u140, u141, u142, u143, u144, u145, u146, u147, u148, u149, u150, u151, u152, u153, u154, u155, u156, u157, u158, u159, u160, u161, u162, u163, u164, u165, u166, u167, u168, u169, u170, u171, u172, u173, u174, u175, u176, u177, u178, u179, u180, u181, u182, u183, u184, u185, u186, u187, u188, u189, u190, u191, u192, u193, u194, u195, u196, u197, u198, u199, u200, u201, u202, u203, u204, u205, u206, u207, u208, u209, u210, u211, u212, u213, u214, u215, u216, u217, u218, u219, u220, u221, u222, u223, u224, u225, u226, u227, u228, u229, u230, u231, u232, u233, u234, u235, u236, u237, u238, u239, u240, u241, u242, u243, u244, u245, u246, u247, u248, u249, u250, u251, u252, u253], []⟩ w7 := by
  obtain ⟨hr, hR⟩ := HR.out.roll HI.out (b' := 1152921504606846976 + 1000 * (k : Int) + 1000) (by omega)
  have HK := Lib.hid hK
  clear hK
  have hg1 : g ≤ 1 + 2 * (k : Int) := HR.out.gen
  have hg0 : 1 ≤ g := HR.out.may.gen
  have hn1 : (nthS S m).num ≤ 1 + (k : Int) := by have h := HR.out.num; rw [HLS.out] at h; exact h
  have hn0 : 1 ≤ (nthS S m).num := by have h := HR.out.may.last.1; have := HLS.out; unfold lastS at this; dsimp only at h this; rw [this] at h; exact h
  obtain ⟨rg, rf, RL⟩ := r
  obtain ⟨E, hE⟩ : ∃ E, (nthS S m).base + oe.tmod 1000 = E := ⟨_, rfl⟩
  have hE0 : -9223372036854775808 ≤ E ∧ E ≤ 9223372036854775807 := by omega
  obtain ⟨hE1, hE2⟩ := hE0
  have hrl : RL.length = m + 2 := by
    have h := congrArg (fun c => c.segs.length) hr
    dsimp only at h
    rw [h, roll_len]
    have := HN.out
    dsimp only at this ⊢
    omega
  have hnew : nthS RL (m + 1) = ⟨(nthS S m).num + 1, E, od, 0, 0⟩ := by
    have h := congrArg (fun c => nthS c.segs (m + 1)) hr
    dsimp only at h
    rw [h, hE]
    have h2 := roll_new ⟨g, f, S⟩ ((nthS S m).base + oe.tmod 1000) (32 + os.tmod 100000) od
    rw [show (CatV.mk g f S).segs.length = m + 1 from HN.out, HLS.out, hE] at h2
    exact h2
  have hold : (nthS RL m).end_ = E := by
    have h := congrArg (fun c => (nthS c.segs m).end_) hr
    dsimp only at h
    rw [h, hE]
    have h2 := roll_old (c := ⟨g, f, S⟩) (by have := HN.out; dsimp only at this ⊢; omega) ((nthS S m).base + oe.tmod 1000) (32 + os.tmod 100000) od
    rw [show (CatV.mk g f S).segs.length - 1 = m by rw [show (CatV.mk g f S).segs.length = m + 1 from HN.out, Nat.add_sub_cancel], hE] at h2
    exact h2
  obtain ⟨rfl, rfl⟩ : rg = g + 1 ∧ rf = f := ⟨congrArg CatV.gen hr, congrArg CatV.first hr⟩
  dsimp only at R7 D7
  rw [hrl] at R7 D7
  obtain ⟨hsr, -⟩ := R7.out.at.segs
  obtain ⟨-, rb, ro, rfl, -⟩ := hsr 0 (by dsimp only; omega)
  obtain ⟨-, -, -, -, x3, -⟩ := hsr.get (i := m) (by dsimp only; omega)
  obtain ⟨-, y0, y1, y2, -, -⟩ := hsr.get (i := m + 1) (by dsimp only; omega)
  dsimp only at x3 y0 y1 y2
  rw [hold] at x3
  rw [hnew] at y0 y1 y2
  dsimp only at y0 y1 y2
  have a0 := cell_of_row _ _ 0 _ _ _ D7.out
  have a1 := cell_of_row _ _ 1 _ _ _ D7.out
  have a2 := cell_of_row _ _ 2 _ _ _ D7.out
  have b0 := cell_of_row _ _ 0 _ _ _ W7.out.box
  have b1 := cell_of_row _ _ 1 _ _ _ W7.out.box
  have b2 := cell_of_row _ _ 2 _ _ _ W7.out.box
  have f0 := frozen_of_row _ _ 0 _ _ W7.out.box
  have f1 := frozen_of_row _ _ 1 _ _ W7.out.box
  have f2 := frozen_of_row _ _ 2 _ _ W7.out.box
  have n0 := cell_of_row _ _ 0 _ _ _ N7.out
  have o3 := cell_of_row _ _ 3 _ _ _ O7.out
  have RR := Lib.hid (hr ▸ hR)
  have LOWR : Hid (∀ b off, (some ⟨rb, ro, none⟩ : Option Addr) = some ⟨b, off, none⟩ → b < db) := Lib.hid (LR.out (by dsimp only; omega))
  dsimp only at b0 b1 b2
  clear hr hR hsr hold hnew hrl hE HI
  conv => arg 2; whnf
  go_wp2_with fail
  have s1 : IntKind.i64.wrap (g + 1) = g + 1 := IntWalk.i64_in _ (by omega)
  have s2 : IntKind.i64.wrap ((m : Int) + 1 + 1) = (m : Int) + 1 + 1 := IntWalk.i64_in _ (by omega)
  have s3 : IntKind.i64.wrap (m : Int) = (m : Int) := IntWalk.i64_in _ (by omega)
  have s4 : IntKind.i64.wrap ((nthS S m).num + 1) = (nthS S m).num + 1 := IntWalk.i64_in _ (by omega)
  have s5 : ((m : Int) + 2 != (m : Int) + 1 + 1) = false := by simp; omega
  have i1 : (m : Int) < (m : Int) + 2 := by omega
  have i2 : (m : Int) + 1 < (m : Int) + 2 := by omega
  have i3 : 0 ≤ (m : Int) + 1 := by omega
  refine wp_region_quiet_lit (by kernel_rfl) (by kernel_rfl) ?_
  repeat (go_big_quiet_step (fail))
  refine wpQuiet_nil ?_
  intro _ hw'
  obtain ⟨nq, hw''⟩ := hw'
  subst hw''
  clear s1 s2 s3 s4 s5 i1 i2 i3 x3 y0 y1 y2 n0 o3
  go_wp2_with fail
  refine HK.out (g + 1) rf (some ⟨rb, ro, none⟩) (m + 2) cr RL _ _ _ _ _ _ _ _ _ _ _ _ _ _ _ _ _ _ _ _ _ _ _ _ _ _ _ _ _ _ _ _ _ _ _ _ _ _ _ _ _ _ _ _ _ _ _ _ _ _ _ _ _ _ _ _ _ _ _ _ _ _ _ _ _ _ _ ?_
  exact ⟨RR.out.mono (by omega) (by omega) (by omega) (by omega), (R7.out.keep (below_drewN _ _)).laid W7.out.box LB.out, put3_below (below_trans B7.out (below_drewN _ _)) CB.out _ _ _,
    (put3_off NO.out _ _ _).trans O7.out, ⟨_, _, _, (put3_off ND.out _ _ _).trans D7.out⟩, LOWR.out⟩
end Go.Proofs.Ytmkljmljbbijeaa

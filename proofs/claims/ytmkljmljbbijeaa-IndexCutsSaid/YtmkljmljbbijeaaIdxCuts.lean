/- The walk of flumelaw9.IndexCuts. -/
import Derived.Test.YtmkljmljbbijeaaIdxFound
import Derived.Test.YtmkljmljbbijeaaPlainCuts
import Derived.Test.YtmkljmljbbijeaaIdxEq
namespace Go.Proofs.Ytmkljmljbbijeaa
open Go.RowKit

/-- Another index stays as it is. -/
theorem IdxAt.other {wr w' : World} {base xb yb nx cx ny cy : Nat} {X Y : IdxV} {ax ay : Option Addr} {vx' : Value} (h : IdxAt wr base yb Y ay ny cy) (hx : IdxAt wr base xb X ax nx cx) (T : Turned wr w' xb (.slice ax nx cx) vx') (ne : yb ≠ xb) (ap : ∀ j, (Value.slice ay ny cy).ownBlock = some j → (Value.slice ax nx cx).ownBlock ≠ some j) : IdxAt w' base yb Y ay ny cy :=
  h.move fun q hq => by
    rcases hq with rfl | hq
    · exact T.far q (heap_lt h.row) ne (held_ne hx.held h.row)
    · obtain ⟨-, c, hc⟩ := held_blk h.held hq
      exact T.far q (heap_lt hc) (fun e => held_ne h.held hx.row (e ▸ hq)) (ap q hq)
/-- Two indexes, apart. -/
structure PairI (w1 : World) (base xb yb : Nat) (X : IdxV) (ax : Option Addr) (nx cx : Nat) (Y : IdxV) (ay : Option Addr) (ny cy : Nat) (wr : World) : Prop where
  x : IdxAt wr base xb X ax nx cx
  y : IdxAt wr base yb Y ay ny cy
  ne : yb ≠ xb
  ap : ∀ j, (Value.slice ay ny cy).ownBlock = some j → (Value.slice ax nx cx).ownBlock ≠ some j
  low : Below base w1 wr
section
variable {w1 wr w' : World} {base xb yb nx cx ny cy : Nat} {X Y : IdxV} {ax ay : Option Addr}
theorem PairI.on (h : PairI w1 base xb yb X ax nx cx Y ay ny cy wr) (hb : Below wr.heap.size wr w') : PairI w1 base xb yb X ax nx cx Y ay ny cy w' :=
  ⟨h.x.keep hb, h.y.keep hb, h.ne, h.ap, h.low.trans (hb.mono (Nat.le_trans h.x.low (Nat.le_of_lt (heap_lt h.x.row))))⟩
theorem PairI.turnX (h : PairI w1 base xb yb X ax nx cx Y ay ny cy wr) {X' : IdxV} {ax' : Option Addr} {nx' cx' : Nat} (T : Turned wr w' xb (.slice ax nx cx) (.slice ax' nx' cx')) (hx : IdxAt w' base xb X' ax' nx' cx') : PairI w1 base xb yb X' ax' nx' cx' Y ay ny cy w' :=
  ⟨hx, h.y.other h.x T h.ne h.ap, h.ne, fun j hj e => by
    rcases T.who j e with e | e
    · exact h.ap j hj e
    · obtain ⟨-, c, hc⟩ := held_blk h.y.held hj
      have := heap_lt hc; omega, h.low.trans (T.below h.x.low (fun j hj => (held_blk h.x.held hj).1) (Nat.le_trans h.x.low (Nat.le_of_lt (heap_lt h.x.row))))⟩
theorem PairI.turnY (h : PairI w1 base xb yb X ax nx cx Y ay ny cy wr) {Y' : IdxV} {ay' : Option Addr} {ny' cy' : Nat} (T : Turned wr w' yb (.slice ay ny cy) (.slice ay' ny' cy')) (hy : IdxAt w' base yb Y' ay' ny' cy') : PairI w1 base xb yb X ax nx cx Y' ay' ny' cy' w' :=
  ⟨h.x.other h.y T (Ne.symm h.ne) (fun j hj e => h.ap j e hj), hy, h.ne, fun j hj e => by
    rcases T.who j hj with e2 | e2
    · exact h.ap j e2 e
    · obtain ⟨-, c, hc⟩ := held_blk h.x.held e
      have := heap_lt hc; omega, h.low.trans (T.below h.y.low (fun j hj => (held_blk h.y.held hj).1) (Nat.le_trans h.y.low (Nat.le_of_lt (heap_lt h.y.row))))⟩
theorem own_far (h : IdxAt wr base xb X ax nx cx) {u : Value} {L : List Int} {b2 : Nat} (ho : OwnN wr b2 u L) {v' : Value} (T : Turned wr w' xb (.slice ax nx cx) v') : OwnN w' b2 u L :=
  rows_congr ho fun q hq => T.far q (by obtain ⟨-, c, h⟩ := rows_blk ho hq; exact heap_lt h) (fun e => own_ne_idx ho h.row (e ▸ hq)) (fun e => held_ne_own h.held ho e hq)
end
/-- The offsets that were laid down. -/
structure OffsI (base : Nat) (f : Nat → Int) (i : Nat) (u : Value) (L : List Int) (wr : World) : Prop where
  own : OwnN wr base u L
  len : L.length = i
  val : ∀ j, j < i → L.getD j 0 = f j
theorem toldV_ok {step : Int} {f : Nat → Int} (hs : 1 ≤ step ∧ step ≤ 1048576) (h0 : ∀ j, 0 ≤ f j) {N : Nat} (h1 : ∀ j, j < N → f j ≤ 2147483647) (h2 : ∀ j, f j < f (j + 1)) (hN : N ≤ 100000) : ∀ j, j ≤ N → IdxOk (toldV step f j)
  | 0, _ => idx0_ok hs.1 hs.2
  | j + 1, hj => by
    have ih := toldV_ok hs h0 h1 h2 hN j (by omega)
    have hA : AddIs (toldV step f j) (1 + (j : Int)) (f j) (addV (toldV step f j) (1 + (j : Int)) (f j)) 0 := by
      have hb : ¬ BadArg (1 + (j : Int)) (f j) := by have := h0 j; have := h1 j (by omega); unfold BadArg; omega
      have ho : ¬ BadOrder (toldV step f j) (1 + (j : Int)) (f j) := fun hh => by
        match j with
        | 0 => cases hh.1
        | j + 1 =>
          have h3 := hh.2
          rw [toldV_last] at h3
          have := h2 j
          dsimp only at h3
          omega
      unfold addV
      split
      · rename_i hl; exact .inr (.inr (.inl ⟨hb, ho, hl, rfl, rfl⟩))
      · rename_i hl; exact .inr (.inr (.inr ⟨hb, ho, hl, rfl, rfl⟩))
    rw [toldV]
    exact hA.ok ih (by omega)
theorem told_next {step : Int} {f : Nat → Int} {j : Nat} {Y : IdxV} {er : Int} (h0 : 0 ≤ f j) (h1 : f j ≤ 2147483647) (h2 : ∀ j, f j < f (j + 1)) (hN : j ≤ 100000) (hA : AddIs (toldV step f j) (1 + (j : Int)) (f j) Y er) : er = 0 ∧ Y = toldV step f (j + 1) := by
  refine add_fine (fun ht => ?_) (by omega) (by omega) h0 h1 hA
  match j with
  | 0 => cases ht
  | j + 1 =>
    rw [toldV_last]
    have := h2 j
    dsimp only
    omega
set_option maxRecDepth 100000 in
set_option maxHeartbeats 8000000 in
theorem cuts_tell (base xb yb cs cm : Nat) (step cut : Int) (a am : Option Addr) (S M : List Nat) (w1 w : World) (Q : Exit → Act → World → Prop)
    (u4 u5 u6 u7 u8 u10 u12 u13 u14 u15 u16 u17 u18 u19 u20 u21 u22 u23 u24 u25 u26 u27 u28 u29 u30 u31 u32 u33 u34 u35 u36 u37 u38 u39 u40 u41 u42 u43 u44 u45 u46 u47 u48 u49 u50 u51 u52 u53 u54 u55 u56 u57 u58 u59 u60 u61 u62 u63 u64 u65 u66 u67 u68 u69 u70 u71 u72 u73 u74 u75 u76 u77 u78 u79 u80 u81 u82 u83 u84 u85 u86 u87 u88 u89 u90 u91 u92 u93 u94 u95 u96 u97 u98 u99 u100 u101 u102 u103 u104 u105 u106 u107 u108 u109 u110 u111 u112 u113 u114 u115 u116 u117 u118 u119 u120 u121 u122 u123 u124 u125 u126 u127 u128 u129 u130 u131 u132 u133 u134 u135 u136 u137 u138 u139 u140 u141 u142 u143 u144 u145 u146 u147 u148 u149 u150 u151 u152 u153 u154 u155 u156 u157 u158 u159 u160 u161 u162 u163 u164 u165 u166 u167 u168 u169 u170 u171 u172 u173 u174 u175 u176 u177 u178 u179 u180 u181 : Value)
    (hst : 1 ≤ step ∧ step ≤ 1048576) (hS2 : S.length ≤ 200) (hbase : base = w1.heap.size) (HS : Hid (U16sAt w1 a S)) (P : Hid (PairI w1 base xb yb (idx0 step) none 0 0 (idx0 step) none 0 0 w))
    (hrest : ∀ (wd : World) (u : Value) (L : List Int) (ax : Option Addr) (nx cx : Nat) (x16 x66 x67 x68 x69 x70 x71 x72 x73 x74 x75 x76 x77 x78 x79 x80 x81 x82 x83 x84 x85 x86 x87 x88 : Value), PairI w1 base xb yb (toldV step (offC 0 S) S.length) ax nx cx (idx0 step) none 0 0 wd → OffsI base (offC 0 S) S.length u L wd →
      (fromOf Try.f11 17).wp Try.prog Q ⟨#[.int .i64 step, .slice a S.length cs, .int .i64 cut, .slice am M.length cm, u4, u5, u6, u7, u8, .pointer (some ⟨xb, 0, none⟩), u10, .pointer (some ⟨yb, 0, none⟩), u12, .int .i64 (offC 0 S S.length), .int .i64 0, u, x16, u17, u18, u19, u20, u21, u22, u23, u24, u25, u26, u27, u28, u29, u30, u31, u32, u33, u34, u35, u36, u37, u38, u39, u40, u41, u42, u43, u44, u45, u46, u47, u48, u49, u50, u51, u52, u53, u54, u55, u56, u57, u58, u59, u60, u61, u62, u63, u64, u65, x66, x67, x68, x69, x70, x71, x72, x73, x74, x75, x76, x77, x78, x79, x80, x81, x82, x83, x84, x85, x86, x87, x88, u89, u90, u91, u92, u93, u94, u95, u96, u97, u98, u99, u100, u101, u102, u103, u104, u105, u106, u107, u108, u109, u110, u111, u112, u113, u114, u115, u116, u117, u118, u119, u120, u121, u122, u123, u124, u125, u126, u127, u128, u129, u130, u131, u132, u133, u134, u135, u136, u137, u138, u139, u140, u141, u142, u143, u144, u145, u146, u147, u148, u149, u150, u151, u152, u153, u154, u155, u156, u157, u158, u159, u160, u161, u162, u163, u164, u165, u166, u167, u168, u169, u170, u171, u172, u173, u174, u175, u176, u177, u178, u179, u180, u181], []⟩ wd) :
    (fromOf Try.f11 9).wp Try.prog Q ⟨#[.int .i64 step, .slice a S.length cs, .int .i64 cut, .slice am M.length cm, u4, u5, u6, u7, u8, .pointer (some ⟨xb, 0, none⟩), u10, .pointer (some ⟨yb, 0, none⟩), u12, u13, u14, u15, u16, u17, u18, u19, u20, u21, u22, u23, u24, u25, u26, u27, u28, u29, u30, u31, u32, u33, u34, u35, u36, u37, u38, u39, u40, u41, u42, u43, u44, u45, u46, u47, u48, u49, u50, u51, u52, u53, u54, u55, u56, u57, u58, u59, u60, u61, u62, u63, u64, u65, u66, u67, u68, u69, u70, u71, u72, u73, u74, u75, u76, u77, u78, u79, u80, u81, u82, u83, u84, u85, u86, u87, u88, u89, u90, u91, u92, u93, u94, u95, u96, u97, u98, u99, u100, u101, u102, u103, u104, u105, u106, u107, u108, u109, u110, u111, u112, u113, u114, u115, u116, u117, u118, u119, u120, u121, u122, u123, u124, u125, u126, u127, u128, u129, u130, u131, u132, u133, u134, u135, u136, u137, u138, u139, u140, u141, u142, u143, u144, u145, u146, u147, u148, u149, u150, u151, u152, u153, u154, u155, u156, u157, u158, u159, u160, u161, u162, u163, u164, u165, u166, u167, u168, u169, u170, u171, u172, u173, u174, u175, u176, u177, u178, u179, u180, u181], []⟩ w := by
  have HR := Lib.hid hrest
  have ST := Lib.hid hst
  have HB := Lib.hid hbase
  obtain ⟨f, hf⟩ : ∃ f, offC 0 S = f := ⟨_, rfl⟩
  have FL := Lib.hid (show ∀ j, 0 ≤ f j from fun j => by rw [← hf]; have := offC_low 0 S j; omega)
  have FU := Lib.hid (show ∀ j, f j < f (j + 1) from fun j => by rw [← hf, offC]; omega)
  have FN := Lib.hid (show ∀ j, f (j + 1) = f j + 1 + (at16 S j : Int) from fun j => by rw [← hf]; rfl)
  have FH := Lib.hid (show ∀ j, j ≤ S.length → f j ≤ 65536 * (j : Int) from fun j hj => by
    have := offC_high 0 S j hj (fun i hi => (HS.out i hi).1)
    rw [hf] at this; omega)
  have F0 := Lib.hid (show f 0 = 0 from by rw [← hf]; rfl)
  rw [hf] at HR
  have T0 := Lib.hid (show toldV step f 0 = idx0 step from rfl)
  clear hrest hst hbase hf
  conv => arg 2; whnf
  go_wp2_with fail
  go_loopw [13, 15, 16] (fun s13 s15 s16 wr => ∃ (i : Nat) (u : Value) (L : List Int) (ax : Option Addr) (nx cx : Nat) (o : Int), i ≤ S.length ∧ s13 = .int .i64 o ∧ s15 = u ∧ s16 = .int .i64 i ∧ Hid (o = f i) ∧ Hid (PairI w1 base xb yb (toldV step f i) ax nx cx (idx0 step) none 0 0 wr) ∧ Hid (OffsI base f i u L wr)) (fun _ _ s16 _ => S.length - (intOf s16).toNat)
  case atStart => exact ⟨0, _, [], none, 0, 0, 0, Nat.zero_le _, rfl, rfl, rfl, Lib.hid F0.out.symm, P, Lib.hid ⟨OwnN.nil _ _, rfl, fun j hj => absurd hj (by omega)⟩⟩
  case round =>
    clear P
    obtain ⟨i, u, L, ax, nx, cx, o, hi, rfl, rfl, rfl, HO, P, G⟩ := hrel
    have XS := Lib.hid (show base ≤ wr.heap.size from Nat.le_trans P.out.x.low (Nat.le_of_lt (heap_lt P.out.x.row)))
    have o0 := FL.out i
    have o1 := FH.out i hi
    rw [← HO.out] at o0 o1
    by_cases hlt : i < S.length
    · have c1 : (i : Int) < (S.length : Int) := by omega
      have z1 : IntKind.i64.wrap (1 + (i : Int)) = 1 + (i : Int) := IntWalk.i64_in _ (by omega)
      have OKH := Lib.hid (toldV_ok (f := f) (N := S.length) ST.out FL.out (fun j hj => by have := FH.out j (by omega); omega) FU.out (by omega) i hi)
      have ADH := Lib.hid (idx_add base xb nx cx (toldV step f i) ax (1 + (i : Int)) o wr (Lib.hid P.out.x) OKH XS)
      go_wp2_with fail
      refine ADH.out.mono ?_
      rintro e w3 ⟨Y, er, a3, n3, c3, hA, rfl, hat, hT⟩
      obtain ⟨rfl, rfl⟩ := told_next (step := step) (f := f) (j := i) (by rw [← HO.out]; omega) (by rw [← HO.out]; omega) FU.out (by omega) (by rw [← HO.out]; exact hA)
      have P3 := Lib.hid (P.out.turnX hT hat)
      have G3 := Lib.hid (own_far P.out.x G.out.own hT)
      have S3 := Lib.hid (show base ≤ w3.heap.size from Nat.le_trans XS.out hT.size)
      clear hA hat hT ADH z1
      have bN := below_alloc w3 (.cells #[.int .i64 o] 3)
      have OU4 := Lib.hid (G3.out.keep bN)
      have P4 := Lib.hid (P3.out.on bN)
      have S4 := Lib.hid (Nat.le_trans S3.out bN.size)
      have LE : Hid (L.length ≤ 1099511627776) := Lib.hid (by have := G.out.len; omega)
      clear bN
      try dsimp only
      go_wp2_with (refine wpList_append_int (o := ⟨some 80, _, _, _, _, _⟩) rfl _ _ rfl base _ L rfl OU4.out ⟨w3.heap.size, 0, none⟩ o rfl (cell_one_new _ _ _) LE.out S4.out ?_)
      intro v5 w5 ho5 hg5
      have MV := Lib.hid (show ∀ q c, (w3.alloc (.cells #[.int .i64 o] 3)).heap[q]? = some c → (∀ cs f, c ≠ .cells cs 3 f) → w5.heap[q]? = some c from fun q c hq hc => (hg5.block q (heap_lt hq) (fun e => by
        obtain ⟨-, c', hc'⟩ := rows_blk OU4.out e.symm
        rw [hq] at hc'
        exact hc _ _ (Option.some.inj hc'))).trans hq)
      have P5 := Lib.hid (show PairI w1 base xb yb (toldV step f (i + 1)) a3 n3 c3 (idx0 step) none 0 0 w5 from ⟨P4.out.x.move (fun q hq => by
          rcases hq with rfl | hq
          · exact (MV.out _ _ P4.out.x.row (fun _ _ e => by simp at e)).trans P4.out.x.row.symm
          · obtain ⟨-, c, h⟩ := held_blk P4.out.x.held hq
            exact (MV.out _ _ h (fun _ _ e => by simp at e)).trans h.symm), P4.out.y.move (fun q hq => by
          rcases hq with rfl | hq
          · exact (MV.out _ _ P4.out.y.row (fun _ _ e => by simp at e)).trans P4.out.y.row.symm
          · obtain ⟨-, c, h⟩ := held_blk P4.out.y.held hq
            exact (MV.out _ _ h (fun _ _ e => by simp at e)).trans h.symm), P4.out.ne, P4.out.ap, P4.out.low.grown hg5 S4.out (fun j hj => (rows_blk OU4.out hj).1)⟩)
      have G5 := Lib.hid (show OffsI base f (i + 1) v5 (L ++ [o]) w5 from ⟨ho5, by rw [List.length_append, List.length_singleton, G.out.len], fun j hj => by
        rcases Nat.lt_or_ge j i with h | h
        · rw [getD_left (by rw [G.out.len]; exact h)]; exact G.out.val j h
        · obtain rfl : j = i := by omega
          have := getD_end L o
          rw [G.out.len] at this
          rw [this]; exact HO.out⟩)
      obtain ⟨sm, b, off', rfl, hcell⟩ := (HS.out.below (HB.out ▸ P5.out.low)) i hlt
      have FN2 := FN.out i
      obtain ⟨s, hs⟩ : ∃ s, at16 S i = s := ⟨_, rfl⟩
      rw [hs] at sm hcell FN2
      rw [← HO.out] at FN2
      have y1 : IntKind.i64.wrap (o + 1) = o + 1 := IntWalk.i64_in _ (by omega)
      have y2 : IntKind.i64.wrap (s : Int) = (s : Int) := IntWalk.i64_in _ (by omega)
      have y3 : IntKind.i64.wrap (o + 1 + (s : Int)) = o + 1 + (s : Int) := IntWalk.i64_in _ (by omega)
      have HO2 := Lib.hid FN2.symm
      obtain ⟨L2, hL2⟩ : ∃ L2, L ++ [o] = L2 := ⟨_, rfl⟩
      rw [hL2] at G5
      clear ho5 hg5 hs hL2 o0 o1 FN2 MV
      go_wp2_with fail
      go_roundw
      case rel => exact ⟨i + 1, v5, L2, a3, n3, c3, o + 1 + (s : Int), by omega, rfl, rfl, by go_num, HO2, P5, G5⟩
      case measure => simp [intOf]; omega
    · have c1 : (S.length : Int) ≤ (i : Int) := by omega
      have hiS : i = S.length := by omega
      have P2 := Lib.hid (hiS ▸ P.out)
      have G2 := Lib.hid (hiS ▸ G.out)
      have HO3 := Lib.hid (hiS ▸ HO.out)
      clear o0 o1
      go_upto_if 69 with (fail)
      iterate 6 go_step
      obtain rfl := HO3.out
      exact HR.out _ _ _ _ _ _ _ _ _ _ _ _ _ _ _ _ _ _ _ _ _ _ _ _ _ _ _ _ _ _ P2.out G2.out
theorem cut_told {step : Int} {f : Nat → Int} {N : Nat} {cut gone : Int} {Y : IdxV} (hok : IdxOk (toldV step f N)) (h0 : 0 ≤ cut) (h1 : cut ≤ (N : Int)) (hA : CutE (toldV step f N) (1 + cut) Y gone) :
    ∃ last : Nat, last ≤ N ∧ Y = toldV step f last ∧ 0 ≤ gone ∧ (cut < (N : Int) → (Y.l.length = 0 ∧ last = 0 ∨ 1 ≤ Y.l.length ∧ (nthE Y.l (Y.l.length - 1)).lsn = (last : Int))) ∧ (¬ cut < (N : Int) → last = N) := by
  have hlen := hok.len
  rcases hA with ⟨h2, rfl, rfl⟩ | ⟨h2, h3, k, h4, rfl, rfl⟩
  · have hc : ¬ cut < (N : Int) := fun hc => by
      match N with
      | 0 => omega
      | N + 1 =>
        rcases h2 with h2 | h2
        · rw [toldV_told] at h2; cases h2
        · rw [toldV_last] at h2; dsimp only at h2; omega
    exact ⟨N, Nat.le_refl _, rfl, Int.le_refl _, fun h => absurd h hc, fun _ => rfl⟩
  · have hc : cut < (N : Int) := by
      match N with
      | 0 => cases h2
      | N + 1 => rw [toldV_last] at h3; dsimp only at h3; omega
    obtain ⟨last, h5, h6, h7, h8⟩ := toldV_cut step f hok h4.1
    have hl : (cutV (toldV step f N) k).l.length = k := by
      show ((toldV step f N).l.take k).length = k
      rw [List.length_take]; have := h4.1; omega
    refine ⟨last, h5, h8, by have := h4.1; omega, fun _ => ?_, fun h => absurd hc h⟩
    rw [hl]
    rcases Nat.eq_zero_or_pos k with e | e
    · exact .inl ⟨e, h6 e⟩
    · refine .inr ⟨e, ?_⟩
      show (nthE ((toldV step f N).l.take k) (k - 1)).lsn = _
      rw [nthE_take (by omega)]
      exact (h7 e).2

set_option maxRecDepth 100000 in
set_option maxHeartbeats 8000000 in
theorem cuts_back (base xb yb cs cm nx cx N : Nat) (step cut : Int) (a am ax : Option Addr) (M : List Nat) (f : Nat → Int) (u : Value) (L : List Int) (w1 w : World) (Q : Exit → Act → World → Prop)
    (u4 u5 u6 u7 u8 u10 u12 u13 u14 u16 u17 u18 u19 u20 u21 u22 u23 u24 u25 u26 u27 u28 u29 u30 u31 u32 u33 u34 u35 u36 u37 u38 u39 u40 u41 u42 u43 u44 u45 u46 u47 u48 u49 u50 u51 u52 u53 u54 u55 u56 u57 u58 u59 u60 u61 u62 u63 u64 u65 u66 u67 u68 u69 u70 u71 u72 u73 u74 u75 u76 u77 u78 u79 u80 u81 u82 u83 u84 u85 u86 u87 u88 u89 u90 u91 u92 u93 u94 u95 u96 u97 u98 u99 u100 u101 u102 u103 u104 u105 u106 u107 u108 u109 u110 u111 u112 u113 u114 u115 u116 u117 u118 u119 u120 u121 u122 u123 u124 u125 u126 u127 u128 u129 u130 u131 u132 u133 u134 u135 u136 u137 u138 u139 u140 u141 u142 u143 u144 u145 u146 u147 u148 u149 u150 u151 u152 u153 u154 u155 u156 u157 u158 u159 u160 u161 u162 u163 u164 u165 u166 u167 u168 u169 u170 u171 u172 u173 u174 u175 u176 u177 u178 u179 u180 u181 : Value)
    (hN : N ≤ 200) (h0 : 0 ≤ cut) (h1 : cut ≤ (N : Int)) (OK : Hid (∀ j, j ≤ N → IdxOk (toldV step f j))) (P : Hid (PairI w1 base xb yb (toldV step f N) ax nx cx (idx0 step) none 0 0 w)) (G : Hid (OffsI base f N u L w))
    (hrest : ∀ (wd : World) (last nx' cx' ne ce : Nat) (gone : Int) (ax' ae : Option Addr) (E : List EntV) (x89 x90 x91 x92 x93 x94 x95 x96 x97 x98 x99 x100 x101 x102 x103 x104 x105 x106 x107 x108 x109 x110 : Value), last ≤ N → 0 ≤ gone → E = (toldV step f last).l → E.length = ne → PairI w1 base xb yb (toldV step f last) ax' nx' cx' (idx0 step) none 0 0 wd → OffsI base f N u L wd →
      (fromOf Try.f11 24).wp Try.prog Q ⟨#[.int .i64 step, .slice a N cs, .int .i64 cut, .slice am M.length cm, u4, u5, u6, u7, u8, .pointer (some ⟨xb, 0, none⟩), u10, .pointer (some ⟨yb, 0, none⟩), u12, u13, u14, u, u16, .int .i64 gone, .slice ae ne ce, .int .i64 last, u20, u21, u22, u23, u24, u25, u26, u27, u28, u29, u30, u31, u32, u33, u34, u35, u36, u37, u38, u39, u40, u41, u42, u43, u44, u45, u46, u47, u48, u49, u50, u51, u52, u53, u54, u55, u56, u57, u58, u59, u60, u61, u62, u63, u64, u65, u66, u67, u68, u69, u70, u71, u72, u73, u74, u75, u76, u77, u78, u79, u80, u81, u82, u83, u84, u85, u86, u87, u88, x89, x90, x91, x92, x93, x94, x95, x96, x97, x98, x99, x100, x101, x102, x103, x104, x105, x106, x107, x108, x109, x110, u111, u112, u113, u114, u115, u116, u117, u118, u119, u120, u121, u122, u123, u124, u125, u126, u127, u128, u129, u130, u131, u132, u133, u134, u135, u136, u137, u138, u139, u140, u141, u142, u143, u144, u145, u146, u147, u148, u149, u150, u151, u152, u153, u154, u155, u156, u157, u158, u159, u160, u161, u162, u163, u164, u165, u166, u167, u168, u169, u170, u171, u172, u173, u174, u175, u176, u177, u178, u179, u180, u181], []⟩ wd) :
    (fromOf Try.f11 17).wp Try.prog Q ⟨#[.int .i64 step, .slice a N cs, .int .i64 cut, .slice am M.length cm, u4, u5, u6, u7, u8, .pointer (some ⟨xb, 0, none⟩), u10, .pointer (some ⟨yb, 0, none⟩), u12, u13, u14, u, u16, u17, u18, u19, u20, u21, u22, u23, u24, u25, u26, u27, u28, u29, u30, u31, u32, u33, u34, u35, u36, u37, u38, u39, u40, u41, u42, u43, u44, u45, u46, u47, u48, u49, u50, u51, u52, u53, u54, u55, u56, u57, u58, u59, u60, u61, u62, u63, u64, u65, u66, u67, u68, u69, u70, u71, u72, u73, u74, u75, u76, u77, u78, u79, u80, u81, u82, u83, u84, u85, u86, u87, u88, u89, u90, u91, u92, u93, u94, u95, u96, u97, u98, u99, u100, u101, u102, u103, u104, u105, u106, u107, u108, u109, u110, u111, u112, u113, u114, u115, u116, u117, u118, u119, u120, u121, u122, u123, u124, u125, u126, u127, u128, u129, u130, u131, u132, u133, u134, u135, u136, u137, u138, u139, u140, u141, u142, u143, u144, u145, u146, u147, u148, u149, u150, u151, u152, u153, u154, u155, u156, u157, u158, u159, u160, u161, u162, u163, u164, u165, u166, u167, u168, u169, u170, u171, u172, u173, u174, u175, u176, u177, u178, u179, u180, u181], []⟩ w := by
  have HR := Lib.hid hrest
  clear hrest
  have z1 : IntKind.i64.wrap (1 + cut) = 1 + cut := IntWalk.i64_in _ (by omega)
  have CT := Lib.hid (idx_cut base xb nx cx (toldV step f N) ax (1 + cut) w (Lib.hid P.out.x) (Lib.hid (OK.out N (Nat.le_refl _))))
  conv => arg 2; whnf
  go_wp2_with fail
  refine CT.out.mono ?_
  rintro e w2 ⟨Y, gone, ax2, nx2, cx2, hA, rfl, hat, hT⟩
  obtain ⟨last, hl, rfl, hg, h2, h3⟩ := cut_told (OK.out N (Nat.le_refl _)) h0 h1 hA
  have P2 := Lib.hid (P.out.turnX hT hat)
  have G2 := Lib.hid (show OffsI base f N u L w2 from ⟨own_far P.out.x G.out.own hT, G.out.len, G.out.val⟩)
  have H2 := Lib.hid h2
  have H3 := Lib.hid h3
  clear hA hat hT CT h2 h3 z1
  try dsimp only
  go_wp2_with fail
  refine (idx_entries base xb nx2 cx2 (toldV step f last) ax2 w2 (Lib.hid P2.out.x) (Lib.hid (OK.out last hl))).mono ?_
  rintro e w3 ⟨v, rfl, ho, hb⟩
  have HO := HeldE.of_own ho
  obtain ⟨ae, ce, hv, hes, -⟩ := HO.shape
  obtain ⟨E, hE⟩ : ∃ E, (toldV step f last).l = E := ⟨_, rfl⟩
  rw [hE] at hv hes H2
  obtain ⟨ne, hne⟩ : ∃ ne, E.length = ne := ⟨_, rfl⟩
  rw [hne] at hv
  subst hv
  have P3 := Lib.hid (P2.out.on hb)
  have G3 := Lib.hid (show OffsI base f N u L w3 from ⟨G2.out.own.keep hb, G2.out.len, G2.out.val⟩)
  have ES := Lib.hid hes
  have HE := Lib.hid hE
  have NE := Lib.hid hne
  have nz : (ne : Int) ≤ 2147483648 := by have := (OK.out last hl).len; rw [hE, hne] at this; omega
  clear ho HO hes hb hE hne
  try dsimp only
  go_upto_if 98 with (fail)
  go_cut [19] from 95 to 110 (fun s wc => s = .int .i64 last ∧ wc = w3)
  case first =>
    by_cases hc : cut < (N : Int)
    · rcases H2.out hc with ⟨h4, h5⟩ | ⟨h4, h5⟩
      · rw [NE.out] at h4
        subst h4 h5
        clear H2 H3 h1 h0 hN
        go_wp2_with fail
        go_meet
        exact ⟨rfl, rfl⟩
      · rw [NE.out] at h4 h5
        obtain ⟨p, rfl⟩ : ∃ p, ne = p + 1 := ⟨ne - 1, by omega⟩
        obtain ⟨b, off, rfl, hcc⟩ := ES.out p (by rw [NE.out]; omega)
        obtain ⟨d0, -⟩ := hcc
        rw [Nat.add_sub_cancel] at h5
        rw [h5] at d0
        have pz : 0 < (p : Int) + 1 := by omega
        have pz2 : (p : Int) ≤ 2147483648 := by omega
        have pw : IntKind.i64.wrap (p : Int) = (p : Int) := IntWalk.i64_in _ (by omega)
        have pw2 : IntKind.i64.wrap ((p : Int) + 1 - 1) = (p : Int) := by rw [show (p : Int) + 1 - 1 = (p : Int) by omega]; exact pw
        clear H2 H3 h4 h5 h1 h0 hN nz pz2
        go_wp2_with fail
        go_meet
        exact ⟨rfl, rfl⟩
    · obtain rfl := H3.out (by omega)
      have hge : (last : Int) ≤ cut := by omega
      clear H2 H3 hc h1 h0 hN
      go_wp2_with fail
      go_meet
      exact ⟨rfl, rfl⟩
  case rest =>
    obtain ⟨rfl, rfl⟩ := hcut
    go_step
    exact HR.out _ _ _ _ _ _ _ _ _ _ _ _ _ _ _ _ _ _ _ _ _ _ _ _ _ _ _ _ _ _ _ _ hl hg HE.out.symm NE.out P3.out G3.out
set_option maxRecDepth 100000 in
set_option maxHeartbeats 8000000 in
theorem cuts_again (base xb yb cs cm nx cx N cu last ne ce : Nat) (step cut gone : Int) (a am ax au ae : Option Addr) (M : List Nat) (f : Nat → Int) (L : List Int) (w1 w : World) (Q : Exit → Act → World → Prop)
    (u4 u5 u6 u7 u8 u10 u12 u13 u14 u16 u20 u21 u22 u23 u24 u25 u26 u27 u28 u29 u30 u31 u32 u33 u34 u35 u36 u37 u38 u39 u40 u41 u42 u43 u44 u45 u46 u47 u48 u49 u50 u51 u52 u53 u54 u55 u56 u57 u58 u59 u60 u61 u62 u63 u64 u65 u66 u67 u68 u69 u70 u71 u72 u73 u74 u75 u76 u77 u78 u79 u80 u81 u82 u83 u84 u85 u86 u87 u88 u89 u90 u91 u92 u93 u94 u95 u96 u97 u98 u99 u100 u101 u102 u103 u104 u105 u106 u107 u108 u109 u110 u111 u112 u113 u114 u115 u116 u117 u118 u119 u120 u121 u122 u123 u124 u125 u126 u127 u128 u129 u130 u131 u132 u133 u134 u135 u136 u137 u138 u139 u140 u141 u142 u143 u144 u145 u146 u147 u148 u149 u150 u151 u152 u153 u154 u155 u156 u157 u158 u159 u160 u161 u162 u163 u164 u165 u166 u167 u168 u169 u170 u171 u172 u173 u174 u175 u176 u177 u178 u179 u180 u181 : Value)
    (hN : N ≤ 200) (hl : last ≤ N) (hg : 0 ≤ gone) (hne : (toldV step f last).l.length = ne) (OK : Hid (∀ j, j ≤ N → IdxOk (toldV step f j))) (FH : Hid (∀ j, j < N → 0 ≤ f j ∧ f j ≤ 2147483647)) (FU : Hid (∀ j, f j < f (j + 1))) (P : Hid (PairI w1 base xb yb (toldV step f last) ax nx cx (idx0 step) none 0 0 w)) (G : Hid (OffsI base f N (.slice au N cu) L w))
    (hrest : ∀ (wd : World) (ny cy : Nat) (ay : Option Addr) (x20 x111 x112 x113 x114 x115 x116 x117 x118 x119 x120 x121 x122 x123 x124 x125 x126 x127 x128 x129 x130 x131 x132 x133 : Value), PairI w1 base xb yb (toldV step f last) ax nx cx (toldV step f last) ay ny cy wd → OffsI base f N (.slice au N cu) L wd →
      (fromOf Try.f11 30).wp Try.prog Q ⟨#[.int .i64 step, .slice a N cs, .int .i64 cut, .slice am M.length cm, u4, u5, u6, u7, u8, .pointer (some ⟨xb, 0, none⟩), u10, .pointer (some ⟨yb, 0, none⟩), u12, u13, u14, .slice au N cu, u16, .int .i64 gone, .slice ae ne ce, .int .i64 last, x20, u21, u22, u23, u24, u25, u26, u27, u28, u29, u30, u31, u32, u33, u34, u35, u36, u37, u38, u39, u40, u41, u42, u43, u44, u45, u46, u47, u48, u49, u50, u51, u52, u53, u54, u55, u56, u57, u58, u59, u60, u61, u62, u63, u64, u65, u66, u67, u68, u69, u70, u71, u72, u73, u74, u75, u76, u77, u78, u79, u80, u81, u82, u83, u84, u85, u86, u87, u88, u89, u90, u91, u92, u93, u94, u95, u96, u97, u98, u99, u100, u101, u102, u103, u104, u105, u106, u107, u108, u109, u110, x111, x112, x113, x114, x115, x116, x117, x118, x119, x120, x121, x122, x123, x124, x125, x126, x127, x128, x129, x130, x131, x132, x133, u134, u135, u136, u137, u138, u139, u140, u141, u142, u143, u144, u145, u146, u147, u148, u149, u150, u151, u152, u153, u154, u155, u156, u157, u158, u159, u160, u161, u162, u163, u164, u165, u166, u167, u168, u169, u170, u171, u172, u173, u174, u175, u176, u177, u178, u179, u180, u181], []⟩ wd) :
    (fromOf Try.f11 24).wp Try.prog Q ⟨#[.int .i64 step, .slice a N cs, .int .i64 cut, .slice am M.length cm, u4, u5, u6, u7, u8, .pointer (some ⟨xb, 0, none⟩), u10, .pointer (some ⟨yb, 0, none⟩), u12, u13, u14, .slice au N cu, u16, .int .i64 gone, .slice ae ne ce, .int .i64 last, u20, u21, u22, u23, u24, u25, u26, u27, u28, u29, u30, u31, u32, u33, u34, u35, u36, u37, u38, u39, u40, u41, u42, u43, u44, u45, u46, u47, u48, u49, u50, u51, u52, u53, u54, u55, u56, u57, u58, u59, u60, u61, u62, u63, u64, u65, u66, u67, u68, u69, u70, u71, u72, u73, u74, u75, u76, u77, u78, u79, u80, u81, u82, u83, u84, u85, u86, u87, u88, u89, u90, u91, u92, u93, u94, u95, u96, u97, u98, u99, u100, u101, u102, u103, u104, u105, u106, u107, u108, u109, u110, u111, u112, u113, u114, u115, u116, u117, u118, u119, u120, u121, u122, u123, u124, u125, u126, u127, u128, u129, u130, u131, u132, u133, u134, u135, u136, u137, u138, u139, u140, u141, u142, u143, u144, u145, u146, u147, u148, u149, u150, u151, u152, u153, u154, u155, u156, u157, u158, u159, u160, u161, u162, u163, u164, u165, u166, u167, u168, u169, u170, u171, u172, u173, u174, u175, u176, u177, u178, u179, u180, u181], []⟩ w := by
  have HR := Lib.hid hrest
  have HNE := Lib.hid hne
  have HG := Lib.hid hg
  clear hrest hne hg
  have T0 := Lib.hid (show PairI w1 base xb yb (toldV step f last) ax nx cx (toldV step f 0) none 0 0 w from P.out)
  conv => arg 2; whnf
  go_wp2_with fail
  go_loopw [20] (fun s20 wr => ∃ (i : Nat) (ay : Option Addr) (ny cy : Nat), i ≤ last ∧ s20 = .int .i64 i ∧ Hid (PairI w1 base xb yb (toldV step f last) ax nx cx (toldV step f i) ay ny cy wr) ∧ Hid (OffsI base f N (.slice au N cu) L wr)) (fun s20 _ => last - (intOf s20).toNat)
  case atStart => exact ⟨0, none, 0, 0, Nat.zero_le _, rfl, T0, G⟩
  case round =>
    clear T0 P G
    obtain ⟨i, ay, ny, cy, hi, rfl, P, G⟩ := hrel
    by_cases hlt : i < last
    · have c1 : (i : Int) < (last : Int) := by omega
      have z1 : IntKind.i64.wrap (1 + (i : Int)) = 1 + (i : Int) := IntWalk.i64_in _ (by omega)
      obtain ⟨g, rfl, -, hc⟩ := G.out.own.elem (i := i) (by rw [G.out.len]; omega)
      rw [G.out.val i (by omega)] at hc
      have nz : (i : Int) < (N : Int) := by omega
      obtain ⟨o0, o1⟩ := FH.out i (by omega)
      have XS := Lib.hid (show base ≤ wr.heap.size from Nat.le_trans P.out.x.low (Nat.le_of_lt (heap_lt P.out.x.row)))
      have ADH := Lib.hid (idx_add base yb ny cy (toldV step f i) ay (1 + (i : Int)) (f i) wr (Lib.hid P.out.y) (Lib.hid (OK.out i (by omega))) XS)
      go_wp2_with fail
      refine ADH.out.mono ?_
      rintro e w3 ⟨Y, er, a3, n3, c3, hA, rfl, hat, hT⟩
      obtain ⟨rfl, rfl⟩ := told_next (step := step) (f := f) (j := i) o0 o1 FU.out (by omega) hA
      have P3 := Lib.hid (P.out.turnY hT hat)
      have G3 := Lib.hid (show OffsI base f N (.slice (some ⟨g, 0, none⟩) N cu) L w3 from ⟨own_far P.out.y G.out.own hT, G.out.len, G.out.val⟩)
      clear hA hat hT ADH z1 hc
      try dsimp only
      go_wp2_with fail
      go_roundw
      case rel => exact ⟨i + 1, a3, n3, c3, by omega, by go_num, P3, G3⟩
      case measure => simp [intOf]; omega
    · have c1 : (last : Int) ≤ (i : Int) := by omega
      obtain rfl : i = last := by omega
      have OKL := Lib.hid (OK.out i hl)
      go_wp2_with fail
      refine (idx_entries base yb ny cy (toldV step f i) ay wr (Lib.hid P.out.y) OKL).mono ?_
      rintro e w4 ⟨v, rfl, ho, hb⟩
      obtain ⟨a4, c4, hv, -⟩ := (HeldE.of_own ho).shape
      rw [HNE.out] at hv
      subst hv
      have P4 := Lib.hid (P.out.on hb)
      have G4 := Lib.hid (show OffsI base f N (.slice au N cu) L w4 from ⟨G.out.own.keep hb, G.out.len, G.out.val⟩)
      have t1 : decide (gone < 0) = false := decide_eq_false (by have := HG.out; omega)
      clear ho hb
      try dsimp only
      go_upto_if 133 with (fail)
      iterate 4 go_step
      exact HR.out _ _ _ _ _ _ _ _ _ _ _ _ _ _ _ _ _ _ _ _ _ _ _ _ _ _ _ _ P4.out G4.out
/-- More frames, told behind. -/
noncomputable def contV (Z : IdxV) (last : Nat) (g : Nat → Int) : Nat → IdxV
  | 0 => Z
  | i + 1 => addV (contV Z last g i) (1 + (last : Int) + (i : Int)) (g i)
structure ContOk (X : IdxV) (last i : Nat) (g : Nat → Int) : Prop where
  ok : IdxOk X
  next : X.told = true → X.last.lsn + 1 = 1 + (last : Int) + (i : Int) ∧ X.last.off < g i
theorem ContOk.add {X Y : IdxV} {last i : Nat} {g : Nat → Int} {er : Int} (h : ContOk X last i g) (h0 : 0 ≤ g i) (h1 : g i ≤ 2147483647) (h2 : g i < g (i + 1)) (hN : last + i ≤ 100000) (hA : AddIs X (1 + (last : Int) + (i : Int)) (g i) Y er) : er = 0 ∧ Y = addV X (1 + (last : Int) + (i : Int)) (g i) ∧ ContOk Y last (i + 1) g := by
  obtain ⟨rfl, rfl⟩ := add_fine h.next (by omega) (by omega) h0 h1 hA
  refine ⟨rfl, rfl, hA.ok h.ok (by omega), fun _ => ?_⟩
  rw [addV_last]
  dsimp only
  omega
set_option maxRecDepth 100000 in
set_option maxHeartbeats 8000000 in
theorem cuts_end (base xb yb cm nx cx ny cy N cu last : Nat) (step at0 : Int) (am ax ay au : Option Addr) (M : List Nat) (f : Nat → Int) (L : List Int) (w1 w : World) (Q : Exit → Act → World → Prop)
    (u0 u1 u2 u4 u5 u6 u7 u8 u10 u12 u13 u16 u17 u18 u20 u21 u22 u23 u24 u25 u26 u27 u28 u29 u30 u31 u32 u33 u34 u35 u36 u37 u38 u39 u40 u41 u42 u43 u44 u45 u46 u47 u48 u49 u50 u51 u52 u53 u54 u55 u56 u57 u58 u59 u60 u61 u62 u63 u64 u65 u66 u67 u68 u69 u70 u71 u72 u73 u74 u75 u76 u77 u78 u79 u80 u81 u82 u83 u84 u85 u86 u87 u88 u89 u90 u91 u92 u93 u94 u95 u96 u97 u98 u99 u100 u101 u102 u103 u104 u105 u106 u107 u108 u109 u110 u111 u112 u113 u114 u115 u116 u117 u118 u119 u120 u121 u122 u123 u124 u125 u126 u127 u128 u129 u130 u131 u132 u133 u134 u135 u136 u137 u138 u139 u140 u141 u142 u143 u144 u145 u146 u147 u148 u149 u150 u151 u152 u153 u154 u155 u156 u157 u158 u159 u160 u161 u162 u163 u164 u165 u166 u167 u168 u169 u170 u171 u172 u173 u174 u175 u176 u177 u178 u179 u180 u181 : Value)
    (hN : N ≤ 200) (hl : last ≤ N) (hM : M.length ≤ 200) (hbase : base = w1.heap.size) (HS : Hid (U16sAt w1 am M)) (FH : Hid (∀ j, j < N → 0 ≤ f j ∧ f j ≤ 65536 * 200)) (OK : Hid (IdxOk (toldV step f last))) (P : Hid (PairI w1 base xb yb (toldV step f last) ax nx cx (toldV step f last) ay ny cy w)) (G : Hid (OffsI base f N (.slice au N cu) L w))
    (hat : at0 = if last = 0 then 0 else f (last - 1) + 1)
    (hQ : ∀ (wd : World) (x14 x21 x22 x23 x134 x135 x136 x137 x138 x139 x140 x141 x142 x143 x144 x145 x146 x147 x148 x149 x150 x151 x152 x153 x154 x155 x156 x157 x158 x159 x160 x161 x162 x163 x164 x165 x166 x167 x168 x169 x170 x171 x172 x173 x174 x175 x176 x177 x178 x179 x180 x181 : Value), Below base w1 wd → Q .ret ⟨#[u0, u1, u2, .slice am M.length cm, u4, u5, u6, u7, .bool true, .pointer (some ⟨xb, 0, none⟩), u10, .pointer (some ⟨yb, 0, none⟩), u12, u13, x14, .slice au N cu, u16, u17, u18, .int .i64 last, u20, x21, x22, x23, u24, u25, u26, u27, u28, u29, u30, u31, u32, u33, u34, u35, u36, u37, u38, u39, u40, u41, u42, u43, u44, u45, u46, u47, u48, u49, u50, u51, u52, u53, u54, u55, u56, u57, u58, u59, u60, u61, u62, u63, u64, u65, u66, u67, u68, u69, u70, u71, u72, u73, u74, u75, u76, u77, u78, u79, u80, u81, u82, u83, u84, u85, u86, u87, u88, u89, u90, u91, u92, u93, u94, u95, u96, u97, u98, u99, u100, u101, u102, u103, u104, u105, u106, u107, u108, u109, u110, u111, u112, u113, u114, u115, u116, u117, u118, u119, u120, u121, u122, u123, u124, u125, u126, u127, u128, u129, u130, u131, u132, u133, x134, x135, x136, x137, x138, x139, x140, x141, x142, x143, x144, x145, x146, x147, x148, x149, x150, x151, x152, x153, x154, x155, x156, x157, x158, x159, x160, x161, x162, x163, x164, x165, x166, x167, x168, x169, x170, x171, x172, x173, x174, x175, x176, x177, x178, x179, x180, x181], []⟩ wd) :
    (fromOf Try.f11 30).wp Try.prog Q ⟨#[u0, u1, u2, .slice am M.length cm, u4, u5, u6, u7, u8, .pointer (some ⟨xb, 0, none⟩), u10, .pointer (some ⟨yb, 0, none⟩), u12, u13, .int .i64 0, .slice au N cu, u16, u17, u18, .int .i64 last, u20, u21, u22, u23, u24, u25, u26, u27, u28, u29, u30, u31, u32, u33, u34, u35, u36, u37, u38, u39, u40, u41, u42, u43, u44, u45, u46, u47, u48, u49, u50, u51, u52, u53, u54, u55, u56, u57, u58, u59, u60, u61, u62, u63, u64, u65, u66, u67, u68, u69, u70, u71, u72, u73, u74, u75, u76, u77, u78, u79, u80, u81, u82, u83, u84, u85, u86, u87, u88, u89, u90, u91, u92, u93, u94, u95, u96, u97, u98, u99, u100, u101, u102, u103, u104, u105, u106, u107, u108, u109, u110, u111, u112, u113, u114, u115, u116, u117, u118, u119, u120, u121, u122, u123, u124, u125, u126, u127, u128, u129, u130, u131, u132, u133, u134, u135, u136, u137, u138, u139, u140, u141, u142, u143, u144, u145, u146, u147, u148, u149, u150, u151, u152, u153, u154, u155, u156, u157, u158, u159, u160, u161, u162, u163, u164, u165, u166, u167, u168, u169, u170, u171, u172, u173, u174, u175, u176, u177, u178, u179, u180, u181], []⟩ w := by
  have HQ := Lib.hid hQ
  have HB := Lib.hid hbase
  obtain ⟨g, hg⟩ : ∃ g, offC at0 M = g := ⟨_, rfl⟩
  have A0 := Lib.hid (show 0 ≤ at0 ∧ at0 ≤ 65536 * 200 + 1 from by
    rw [hat]; split
    · omega
    · have := FH.out (last - 1) (by omega); omega)
  have GL := Lib.hid (show ∀ j, 0 ≤ g j from fun j => by rw [← hg]; have := offC_low at0 M j; have := A0.out; omega)
  have GU := Lib.hid (show ∀ j, g j < g (j + 1) from fun j => by rw [← hg, offC]; omega)
  have GN := Lib.hid (show ∀ j, g (j + 1) = g j + 1 + (at16 M j : Int) from fun j => by rw [← hg]; rfl)
  have GH := Lib.hid (show ∀ j, j ≤ M.length → g j ≤ 65536 * 200 + 1 + 65536 * (j : Int) from fun j hj => by
    have := offC_high at0 M j hj (fun i hi => (HS.out i hi).1)
    rw [hg] at this; have := A0.out; omega)
  have G0 := Lib.hid (show g 0 = at0 from by rw [← hg]; rfl)
  have C0 := Lib.hid (show ContOk (toldV step f last) last 0 g from ⟨OK.out, fun ht => by
    match last with
    | 0 => cases ht
    | k + 1 =>
      rw [toldV_last, G0.out, hat, if_neg (by omega), Nat.add_sub_cancel]
      dsimp only
      omega⟩)
  obtain ⟨Z, hZ⟩ : ∃ Z, toldV step f last = Z := ⟨_, rfl⟩
  rw [hZ] at C0 P
  have HAT := Lib.hid hat
  clear hQ hbase hg hat hZ OK
  conv => arg 2; whnf
  go_upto_if 135 with (fail)
  go_cut [14] from 134 to 141 (fun s wc => s = .int .i64 at0 ∧ wc = w)
  case first =>
    rcases Nat.eq_zero_or_pos last with h0 | h0
    · subst h0
      obtain rfl : at0 = 0 := by have := HAT.out; simpa using this
      go_wp2_with fail
      go_meet
      exact ⟨rfl, rfl⟩
    · obtain ⟨k, rfl⟩ : ∃ k, last = k + 1 := ⟨last - 1, by omega⟩
      obtain ⟨q, rfl, -, hc⟩ := G.out.own.elem (i := k) (by rw [G.out.len]; omega)
      rw [G.out.val k (by omega)] at hc
      have ha : at0 = f k + 1 := by have := HAT.out; rw [if_neg (by omega), Nat.add_sub_cancel] at this; exact this
      obtain ⟨o, ho⟩ : ∃ o, f k = o := ⟨_, rfl⟩
      have hr := FH.out k (by omega)
      rw [ho] at ha hc hr
      subst ha
      have z1 : IntKind.i64.wrap (o + 1) = o + 1 := IntWalk.i64_in _ (by omega)
      have z2 : IntKind.i64.wrap (k : Int) = (k : Int) := IntWalk.i64_in _ (by omega)
      have kz : (k : Int) < (N : Int) := by omega
      have pz : 0 < (k : Int) + 1 := by omega
      clear h0 hr ho
      go_wp2_with fail
      go_meet
      exact ⟨rfl, rfl⟩
  case rest =>
    obtain ⟨rfl, rfl⟩ := hcut
    go_wp2_with fail
    go_loopw [14, 21] (fun s14 s21 wr => ∃ (i : Nat) (X : IdxV) (ax' ay' : Option Addr) (nx' cx' ny' cy' : Nat) (o : Int), i ≤ M.length ∧ s14 = .int .i64 o ∧ s21 = .int .i64 i ∧ Hid (o = g i) ∧ Hid (ContOk X last i g) ∧ Hid (PairI w1 base xb yb X ax' nx' cx' X ay' ny' cy' wr)) (fun _ s21 _ => M.length - (intOf s21).toNat)
    case atStart => exact ⟨0, Z, ax, ay, nx, cx, ny, cy, at0, Nat.zero_le _, rfl, rfl, Lib.hid G0.out.symm, C0, P⟩
    case round =>
      clear C0 P G
      obtain ⟨i, X, ax', ay', nx', cx', ny', cy', o, hi, rfl, rfl, HO, C, P⟩ := hrel
      have XS := Lib.hid (show base ≤ wr.heap.size from Nat.le_trans P.out.x.low (Nat.le_of_lt (heap_lt P.out.x.row)))
      have o0 := GL.out i
      have o1 := GH.out i hi
      rw [← HO.out] at o0 o1
      by_cases hlt : i < M.length
      · have c1 : (i : Int) < (M.length : Int) := by omega
        have z1 : IntKind.i64.wrap (1 + (last : Int)) = 1 + (last : Int) := IntWalk.i64_in _ (by omega)
        have z2 : IntKind.i64.wrap (1 + (last : Int) + (i : Int)) = 1 + (last : Int) + (i : Int) := IntWalk.i64_in _ (by omega)
        have ADX := Lib.hid (idx_add base xb nx' cx' X ax' (1 + (last : Int) + (i : Int)) o wr (Lib.hid P.out.x) (Lib.hid C.out.ok) XS)
        go_wp2_with fail
        refine ADX.out.mono ?_
        rintro e w3 ⟨Y, er, a3, n3, c3, hA, rfl, hat, hT⟩
        obtain ⟨rfl, hY, hC⟩ := C.out.add (by rw [← HO.out]; omega) (by rw [← HO.out]; omega) (GU.out i) (by omega) (by rw [← HO.out]; exact hA)
        have AX := Lib.hid hA
        have CY := Lib.hid hC
        have P3 := Lib.hid (P.out.turnX hT hat)
        have S3 := Lib.hid (show base ≤ w3.heap.size from Nat.le_trans XS.out hT.size)
        have ADY := Lib.hid (idx_add base yb ny' cy' X ay' (1 + (last : Int) + (i : Int)) o w3 (Lib.hid P3.out.y) (Lib.hid C.out.ok) S3)
        clear hA hat hT hY hC ADX
        try dsimp only
        go_wp2_with fail
        refine ADY.out.mono ?_
        rintro e w4 ⟨Y2, er2, a4, n4, c4, hA, rfl, hat, hT⟩
        obtain ⟨rfl, rfl⟩ := hA.uniq AX.out
        have P4 := Lib.hid (P3.out.turnY hT hat)
        obtain ⟨sm, b, off', rfl, hcell⟩ := (HS.out.below (HB.out ▸ P4.out.low)) i hlt
        have FN2 := GN.out i
        obtain ⟨s, hs⟩ : ∃ s, at16 M i = s := ⟨_, rfl⟩
        rw [hs] at sm hcell FN2
        rw [← HO.out] at FN2
        have y1 : IntKind.i64.wrap (o + 1) = o + 1 := IntWalk.i64_in _ (by omega)
        have y2 : IntKind.i64.wrap (s : Int) = (s : Int) := IntWalk.i64_in _ (by omega)
        have y3 : IntKind.i64.wrap (o + 1 + (s : Int)) = o + 1 + (s : Int) := IntWalk.i64_in _ (by omega)
        have HO2 := Lib.hid FN2.symm
        clear hA hat hT ADY hs o0 o1 FN2
        try dsimp only
        go_wp2_with fail
        go_roundw
        case rel => exact ⟨i + 1, _, a3, a4, n3, c3, n4, c4, o + 1 + (s : Int), by omega, rfl, by go_num, HO2, CY, P4⟩
        case measure => simp [intOf]; omega
      · have c1 : (M.length : Int) ≤ (i : Int) := by omega
        go_wp2_with fail
        refine (idx_entries base xb nx' cx' X ax' wr (Lib.hid P.out.x) (Lib.hid C.out.ok)).mono ?_
        rintro e w4 ⟨v, rfl, ho, hb⟩
        have HO4 := HeldE.of_own ho
        obtain ⟨a4, c4, rfl, he4, -⟩ := HO4.shape
        have E4 := Lib.hid he4
        have P4 := Lib.hid (P.out.on hb)
        clear ho hb HO4 he4
        try dsimp only
        go_wp2_with fail
        refine (idx_entries base yb ny' cy' X ay' w4 (Lib.hid P4.out.y) (Lib.hid C.out.ok)).mono ?_
        rintro e w5 ⟨v, rfl, ho, hb⟩
        have HO5 := HeldE.of_own ho
        obtain ⟨a5, c5, rfl, he5, -⟩ := HO5.shape
        have E5 := Lib.hid he5
        have E45 := Lib.hid (E4.out.below hb)
        have P5 := Lib.hid (P4.out.on hb)
        have LN := Lib.hid C.out.ok.len
        clear ho hb HO5 he5
        try dsimp only
        go_wp2_with fail
        refine (eq_ents a4 a5 _ c4 c5 X.l w5 rfl E45.out E5.out (by have := LN.out; omega)).mono ?_
        rintro e w6 ⟨rfl, hb⟩
        have P6 := Lib.hid (P5.out.on hb)
        clear hb
        try dsimp only
        go_wp2_with fail
        exact HQ.out _ _ _ _ _ _ _ _ _ _ _ _ _ _ _ _ _ _ _ _ _ _ _ _ _ _ _ _ _ _ _ _ _ _ _ _ _ _ _ _ _ _ _ _ _ _ _ _ _ _ _ _ _ P6.out.low
set_option maxRecDepth 100000 in
set_option maxHeartbeats 16000000 in
theorem idx_cuts (step cut : Int) (a am : Option Addr) (S M : List Nat) (cs cm : Nat) (w : World) (hS : U16sAt w a S) (hM : U16sAt w am M) :
    Calls Try.prog 11 #[.int .i64 step, .slice a S.length cs, .int .i64 cut, .slice am M.length cm] w (TrueBelow w) := by
  have HS := Lib.hid hS
  have HM := Lib.hid hM
  clear hS hM
  go_enter Try.func11, Try.ntmps11
  go_wp2_with fail
  refine (idx_begun w).mono ?_
  rintro e w1 ⟨rfl, hb⟩
  have B1 := Lib.hid hb
  clear hb
  by_cases hst : 1 ≤ step ∧ step ≤ 1048576
  · have ST := Lib.hid hst
    go_wp2_with fail
    refine (idx_new_ok step w1 hst.1 hst.2).mono ?_
    rintro e w2 ⟨rfl, hat, hb⟩
    have H2 := Lib.hid hat
    have B2 := Lib.hid hb
    clear hat hb
    go_wp2_with fail
    refine (idx_new_ok step w2 ST.out.1 ST.out.2).mono ?_
    rintro e w3 ⟨rfl, hat, hb⟩
    have P3 := Lib.hid (show PairI w1 w1.heap.size w1.heap.size w2.heap.size (idx0 step) none 0 0 (idx0 step) none 0 0 w3 from ⟨H2.out.keep hb, hat.base B2.out.size, fun e => by have := heap_lt H2.out.row; omega, (fun j hj => (by cases hj)), below_trans B2.out hb⟩)
    clear hat hb hst
    by_cases hc : 0 ≤ cut ∧ S.length ≤ 200 ∧ M.length ≤ 200 ∧ cut ≤ (S.length : Int)
    · obtain ⟨h0, h1, h2, h3⟩ := hc
      have HC := Lib.hid (show 0 ≤ cut ∧ cut ≤ (S.length : Int) from ⟨h0, h3⟩)
      have L1 := Lib.hid h1
      have L2 := Lib.hid h2
      have t1 : decide (cut < 0) = false := decide_eq_false (by omega)
      have t2 : decide (200 < (S.length : Int)) = false := decide_eq_false (by omega)
      have t3 : decide (200 < (M.length : Int)) = false := decide_eq_false (by omega)
      have t4 : decide ((S.length : Int) < cut) = false := decide_eq_false (by omega)
      clear h0 h1 h2 h3
      obtain ⟨xb, hxb⟩ : ∃ xb, w1.heap.size = xb := ⟨_, rfl⟩
      obtain ⟨yb, hyb⟩ : ∃ yb, w2.heap.size = yb := ⟨_, rfl⟩
      rw [hxb, hyb] at P3
      rw [hxb, hyb]
      have HX := Lib.hid hxb.symm
      clear hxb hyb
      go_upto_if 65 with (fail)
      iterate 4 go_step
      clear t1 t2 t3 t4
      have FH := Lib.hid (show ∀ j, j ≤ S.length → offC 0 S j ≤ 0 + 65536 * (j : Int) from fun j hj => offC_high 0 S j hj (fun i hi => (HS.out i hi).1))
      have FL := Lib.hid (show ∀ j : Nat, 0 + (j : Int) ≤ offC 0 S j from offC_low 0 S)
      have FU := Lib.hid (show ∀ j, offC 0 S j < offC 0 S (j + 1) from fun j => by rw [offC]; omega)
      have OK := Lib.hid (show ∀ j, j ≤ S.length → IdxOk (toldV step (offC 0 S) j) from fun j hj => toldV_ok (f := offC 0 S) (N := S.length) ST.out (fun j => by have := FL.out j; omega) (fun j hj => by have := FH.out j (by omega); have := L1.out; omega) FU.out (by have := L1.out; omega) j hj)
      refine cuts_tell xb xb yb cs cm step cut a am S M w1 w3 _ _ _ _ _ _ _ _ _ _ _ _ _ _ _ _ _ _ _ _ _ _ _ _ _ _ _ _ _ _ _ _ _ _ _ _ _ _ _ _ _ _ _ _ _ _ _ _ _ _ _ _ _ _ _ _ _ _ _ _ _ _ _ _ _ _ _ _ _ _ _ _ _ _ _ _ _ _ _ _ _ _ _ _ _ _ _ _ _ _ _ _ _ _ _ _ _ _ _ _ _ _ _ _ _ _ _ _ _ _ _ _ _ _ _ _ _ _ _ _ _ _ _ _ _ _ _ _ _ _ _ _ _ _ _ _ _ _ _ _ _ _ _ _ _ _ _ _ _ _ _ _ _ _ _ _ _ _ _ _ _ _ _ _ _ _ _ _ _ _ _ _ _ _ _ _ _ ST.out L1.out HX.out (Lib.hid (HS.out.below B1.out)) P3 ?_
      intro w4 u L ax nx cx x16 x66 x67 x68 x69 x70 x71 x72 x73 x74 x75 x76 x77 x78 x79 x80 x81 x82 x83 x84 x85 x86 x87 x88 h4 g4
      refine cuts_back xb xb yb cs cm nx cx S.length step cut a am ax M (offC 0 S) u L w1 w4 _ _ _ _ _ _ _ _ _ _ _ _ _ _ _ _ _ _ _ _ _ _ _ _ _ _ _ _ _ _ _ _ _ _ _ _ _ _ _ _ _ _ _ _ _ _ _ _ _ _ _ _ _ _ _ _ _ _ _ _ _ _ _ _ _ _ _ _ _ _ _ _ _ _ _ _ _ _ _ _ _ _ _ _ _ _ _ _ _ _ _ _ _ _ _ _ _ _ _ _ _ _ _ _ _ _ _ _ _ _ _ _ _ _ _ _ _ _ _ _ _ _ _ _ _ _ _ _ _ _ _ _ _ _ _ _ _ _ _ _ _ _ _ _ _ _ _ _ _ _ _ _ _ _ _ _ _ _ _ _ _ _ _ _ _ _ _ _ _ _ _ _ _ _ _ _ L1.out HC.out.1 HC.out.2 OK (Lib.hid h4) (Lib.hid g4) ?_
      intro w5 last nx' cx' ne ce gone ax' ae E x89 x90 x91 x92 x93 x94 x95 x96 x97 x98 x99 x100 x101 x102 x103 x104 x105 x106 x107 x108 x109 x110 hl hg hE hne h5 g5
      obtain ⟨au, cu, hu, -⟩ := g5.own.there
      rw [g5.len] at hu
      subst hu hE
      refine cuts_again xb xb yb cs cm nx' cx' S.length cu last ne ce step cut gone a am ax' au ae M (offC 0 S) L w1 w5 _ _ _ _ _ _ _ _ _ _ _ _ _ _ _ _ _ _ _ _ _ _ _ _ _ _ _ _ _ _ _ _ _ _ _ _ _ _ _ _ _ _ _ _ _ _ _ _ _ _ _ _ _ _ _ _ _ _ _ _ _ _ _ _ _ _ _ _ _ _ _ _ _ _ _ _ _ _ _ _ _ _ _ _ _ _ _ _ _ _ _ _ _ _ _ _ _ _ _ _ _ _ _ _ _ _ _ _ _ _ _ _ _ _ _ _ _ _ _ _ _ _ _ _ _ _ _ _ _ _ _ _ _ _ _ _ _ _ _ _ _ _ _ _ _ _ _ _ _ _ _ _ _ _ _ _ _ _ _ _ _ _ _ _ _ _ _ _ _ _ _ _ _ L1.out hl hg hne OK (Lib.hid fun j hj => ⟨by have := FL.out j; omega, by have := FH.out j (by omega); have := L1.out; omega⟩) FU (Lib.hid h5) (Lib.hid g5) ?_
      intro w6 ny cy ay x20 x111 x112 x113 x114 x115 x116 x117 x118 x119 x120 x121 x122 x123 x124 x125 x126 x127 x128 x129 x130 x131 x132 x133 h6 g6
      refine cuts_end xb xb yb cm nx' cx' ny cy S.length cu last step _ am ax' ay au M (offC 0 S) L w1 w6 _ _ _ _ _ _ _ _ _ _ _ _ _ _ _ _ _ _ _ _ _ _ _ _ _ _ _ _ _ _ _ _ _ _ _ _ _ _ _ _ _ _ _ _ _ _ _ _ _ _ _ _ _ _ _ _ _ _ _ _ _ _ _ _ _ _ _ _ _ _ _ _ _ _ _ _ _ _ _ _ _ _ _ _ _ _ _ _ _ _ _ _ _ _ _ _ _ _ _ _ _ _ _ _ _ _ _ _ _ _ _ _ _ _ _ _ _ _ _ _ _ _ _ _ _ _ _ _ _ _ _ _ _ _ _ _ _ _ _ _ _ _ _ _ _ _ _ _ _ _ _ _ _ _ _ _ _ _ _ _ _ _ _ _ _ _ _ _ _ _ _ _ _ _ _ _ _ L1.out hl L2.out HX.out (Lib.hid (HM.out.below B1.out)) (Lib.hid fun j hj => ⟨by have := FL.out j; omega, by have := FH.out j (by omega); have := L1.out; omega⟩) (Lib.hid (OK.out last hl)) (Lib.hid h6) (Lib.hid g6) rfl ?_
      intro w7 x14 x21 x22 x23 x134 x135 x136 x137 x138 x139 x140 x141 x142 x143 x144 x145 x146 x147 x148 x149 x150 x151 x152 x153 x154 x155 x156 x157 x158 x159 x160 x161 x162 x163 x164 x165 x166 x167 x168 x169 x170 x171 x172 x173 x174 x175 x176 x177 x178 x179 x180 x181 h7
      have B7 := Lib.hid (below_trans B1.out (HX.out ▸ h7))
      clear h4 g4 h5 g5 h6 g6 h7 hg hne
      go_ret
      exact ⟨rfl, B7.out⟩
    · have HC := Lib.hid hc
      have B3 := Lib.hid (below_trans B1.out P3.out.low)
      clear hc
      by_cases q1 : cut < 0
      · have t1 : decide (cut < 0) = true := decide_eq_true q1
        clear q1
        go_wp2_with fail
        go_ret
        exact ⟨rfl, B3.out⟩
      · have t1 : decide (cut < 0) = false := decide_eq_false q1
        by_cases q2 : 200 < (S.length : Int)
        · clear q1
          go_wp2_with fail
          go_ret
          exact ⟨rfl, B3.out⟩
        · have u2 : (S.length : Int) ≤ 200 := by omega
          by_cases q3 : 200 < (M.length : Int)
          · clear q1 q2
            go_wp2_with fail
            go_ret
            exact ⟨rfl, B3.out⟩
          · have u3 : (M.length : Int) ≤ 200 := by omega
            have q4 : (S.length : Int) < cut := by have := HC.out; omega
            clear q1 q2 q3
            go_wp2_with fail
            go_ret
            exact ⟨rfl, B3.out⟩
  · have hbad := Lib.hid hst
    clear hst
    go_wp2_with fail
    refine (idx_new_no step w1 hbad.out).mono ?_
    rintro e w2 ⟨rfl, rfl⟩
    go_wp2_with fail
    refine (idx_new_no step w2 hbad.out).mono ?_
    rintro e w3 ⟨rfl, rfl⟩
    by_cases h1 : 1 ≤ step
    · have h2 : 1048576 < step := by have := hbad.out; omega
      try dsimp only
      go_wp2_with fail
      go_ret
      exact ⟨rfl, B1.out⟩
    · try dsimp only
      go_wp2_with fail
      go_ret
      exact ⟨rfl, B1.out⟩
end Go.Proofs.Ytmkljmljbbijeaa

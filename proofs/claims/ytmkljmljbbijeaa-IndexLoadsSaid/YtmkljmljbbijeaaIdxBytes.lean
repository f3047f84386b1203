/- An index as bytes, in plain words; index.Bytes walked. -/
import Derived.Test.YtmkljmljbbijeaaIdx
import Derived.Test.YtmkljmljbbijeaaCatNumber
import Derived.Test.YtmkljmljbbijeaaPiece
import Derived.Test.YtmkljmljbbijeaaIdxRef
import Derived.Test.YtmkljmljbbijeaaCatRefWrite
namespace Go.Proofs.Ytmkljmljbbijeaa
open Go.RowKit

def entB (a e : EntV) : List (BitVec 8) := numL (e.lsn - a.lsn) ++ numL (e.off - a.off)
def entsB : EntV → List EntV → List (BitVec 8)
  | _, [] => []
  | a, e :: L => entB a e ++ entsB e L
def preI (X : IdxV) : List (BitVec 8) := numL X.step ++ numL (X.l.length : Nat)
def bareI (X : IdxV) : List (BitVec 8) := preI X ++ entsB ⟨0, 0⟩ X.l
def idxB (X : IdxV) : List (BitVec 8) := bareI X ++ fixedL ((Crc.sum (bareI X)).setWidth 64) 4
theorem entB_len (a e : EntV) : (entB a e).length ≤ 20 := by
  have h1 := numL_len (e.lsn - a.lsn); have h2 := numL_len (e.off - a.off)
  unfold entB
  rw [List.length_append]; omega
theorem entsB_len : ∀ (a : EntV) (L : List EntV), (entsB a L).length ≤ 20 * L.length
  | _, [] => by simp [entsB]
  | a, e :: L => by
    have h1 := entB_len a e
    have h2 := entsB_len e L
    rw [entsB, List.length_append, List.length_cons]; omega
theorem preI_len (X : IdxV) : (preI X).length ≤ 20 := by
  have h1 := numL_len X.step; have h2 := numL_len (X.l.length : Nat)
  unfold preI
  rw [List.length_append]; omega
def lastD : EntV → List EntV → EntV
  | a, [] => a
  | _, x :: A => lastD x A
theorem entsB_append : ∀ (a : EntV) (A : List EntV) (e : EntV), entsB a (A ++ [e]) = entsB a A ++ entB (lastD a A) e
  | a, [], e => by simp [entsB, lastD]
  | a, x :: A, e => by rw [List.cons_append, entsB, entsB_append x A e, entsB, lastD, List.append_assoc]
theorem lastD_take : ∀ (L : List EntV) (a : EntV) (k : Nat), k < L.length → lastD a (L.take (k + 1)) = nthE L k
  | [], _, _, h => absurd h (by simp)
  | x :: L, a, 0, _ => by simp [lastD, nthE]
  | x :: L, a, k + 1, h => by
    rw [List.take_succ_cons, lastD, lastD_take L x k (by simpa using h)]
    simp [nthE]
def prevE (L : List EntV) : Nat → EntV
  | 0 => ⟨0, 0⟩
  | k + 1 => nthE L k
theorem take_snoc {L : List EntV} {k : Nat} (h : k < L.length) : L.take (k + 1) = L.take k ++ [nthE L k] := by
  rw [List.take_succ_eq_append_getElem h]
  simp [nthE, h]
theorem entsB_take {L : List EntV} {k : Nat} (h : k < L.length) : entsB ⟨0, 0⟩ (L.take (k + 1)) = entsB ⟨0, 0⟩ (L.take k) ++ entB (prevE L k) (nthE L k) := by
  rw [take_snoc h, entsB_append]
  congr 2
  match k, h with
  | 0, _ => rfl
  | k + 1, h => exact lastD_take L _ k (by omega)
theorem IdxOk.prev {X : IdxV} (h : IdxOk X) {k : Nat} (hk : k < X.l.length) : 0 ≤ (prevE X.l k).lsn ∧ (prevE X.l k).lsn ≤ (nthE X.l k).lsn ∧ 0 ≤ (prevE X.l k).off ∧ (prevE X.l k).off ≤ (nthE X.l k).off := by
  match k, hk with
  | 0, hk =>
    have := h.ent 0 hk
    exact ⟨Int.le_refl _, by show (0 : Int) ≤ _; omega, Int.le_refl _, this.2.2.1⟩
  | k + 1, hk =>
    have h1 := h.ent k (by omega)
    have h2 := h.rise k hk
    have h3 := h.step.1
    show 0 ≤ (nthE X.l k).lsn ∧ (nthE X.l k).lsn ≤ _ ∧ 0 ≤ (nthE X.l k).off ∧ (nthE X.l k).off ≤ _
    omega
theorem ownB_ne {w : World} {base q : Nat} {v : Value} {bs : List (BitVec 8)} {cs : Array Value} {f : Nat × Nat} (h : OwnB w base v bs) (hr : w.heap[q]? = some (.cells cs 64 f)) : v.ownBlock ≠ some q := fun e => by
  obtain ⟨-, c, hc⟩ := rows_blk h e
  rw [hr] at hc
  simp at hc
/-- The bytes so far; the entry ahead in its box. -/
structure ByI (w : World) (q : Nat) (X : IdxV) (v : Value) (k : Nat) (wr : World) : Prop where
  box : wr.heap[q]? = some (.cells #[.int .i64 (prevE X.l k).lsn, .int .i64 (prevE X.l k).off] 64 (0, 0))
  own : OwnB wr w.heap.size v (preI X ++ entsB ⟨0, 0⟩ (X.l.take k))
  low : Below w.heap.size w wr
  high : w.heap.size ≤ q
theorem rows_base {w : World} {base base' : Nat} {v : Value} {l : List (BitVec 8)} (h : OwnB w base v l) (hb : base' ≤ base) : OwnB w base' v l :=
  ⟨h.1, by
    rcases h.2 with h0 | ⟨g, cap, cur, e, hg, r⟩
    · exact .inl h0
    · exact .inr ⟨g, cap, cur, e, Nat.le_trans hb hg, r⟩⟩
structure EntBox (q eb : Nat) (a e : EntV) (w : World) : Prop where
  box : w.heap[q]? = some (.cells #[.int .i64 a.lsn, .int .i64 a.off] 64 (0, 0))
  ent : w.heap[eb]? = some (.cells #[.int .i64 e.lsn, .int .i64 e.off] 64 (0, 0))
theorem EntBox.keep {q eb : Nat} {a e : EntV} {w w' : World} (h : EntBox q eb a e w) (hb : Below w.heap.size w w') : EntBox q eb a e w' := ⟨(hb.block _ (heap_lt h.box)).trans h.box, (hb.block _ (heap_lt h.ent)).trans h.ent⟩
theorem EntBox.grown {q eb base : Nat} {a e : EntV} {w w' : World} {v : Value} {bs : List (BitVec 8)} (h : EntBox q eb a e w) (ho : OwnB w base v bs) (hg : w.grownBy w' v.ownBlock) : EntBox q eb a e w' :=
  ⟨(hg.block q (heap_lt h.box) (fun x => ownB_ne ho h.box x.symm)).trans h.box, (hg.block eb (heap_lt h.ent) (fun x => ownB_ne ho h.ent x.symm)).trans h.ent⟩
structure HeadR (pb : Nat) (st : Int) (v : Value) (w : World) : Prop where
  x0 : w.cell? ⟨pb, 0, none⟩ = some (.int .i64 st)
  x1 : w.cell? ⟨pb, 1, none⟩ = some v
theorem HeadR.below {pb : Nat} {st : Int} {v : Value} {w w' : World} (h : HeadR pb st v w) (hb : Below w.heap.size w w') : HeadR pb st v w' := ⟨cell_keep hb h.x0, cell_keep hb h.x1⟩
theorem grown_low {w w1 w2 : World} {v : Value} {bs : List (BitVec 8)} (h : Below w.heap.size w w1) (ho : OwnB w1 w.heap.size v bs) (hg : w1.grownBy w2 v.ownBlock) : Below w.heap.size w w2 := h.grown hg h.size (fun _ hj => (rows_blk ho hj).1)

set_option maxRecDepth 100000 in
set_option maxHeartbeats 8000000 in
theorem bytes_rest (base pb n ca : Nat) (X : IdxV) (ao : Option Addr) (w : World) (Q : Exit → Act → World → Prop)
    (u0 u1 u2 u4 u5 u6 u7 u8 u9 u10 u11 u12 u13 u14 u15 u16 u17 u18 u19 u20 u21 u22 u23 u24 u25 u26 u27 u28 u29 u30 u31 u32 u33 u34 u35 u36 u37 u38 u39 u40 u41 u42 u43 u44 u45 u46 u47 u48 u49 u50 u51 u52 u53 u54 u55 u56 u57 u58 u59 u60 u61 : Value)
    (hP : ∀ (c : List PanicEntry) (a : Act) (d : Option Tmp) (v : Value) (w : World), Q (.panic c) (a.put d v) w → Q (.panic c) a w)
    (H : Hid (IdxAt w base pb X ao n ca)) (ok : Hid (IdxOk X))
    (hQ : ∀ (wd : World) (v : Value) (x4 x5 x7 x13 x14 x15 x16 x17 x18 x19 x20 x21 x22 x23 x24 x25 x26 x27 x28 x29 x30 x31 x32 x33 x34 x35 x36 x37 x38 x39 x40 x41 x42 x43 x44 x45 x46 x47 x48 x49 x50 x51 x52 x53 x54 x55 x56 x57 x58 x59 x60 x61 : Value), OwnB wd w.heap.size v (idxB X) → Below w.heap.size w wd → Q .ret ⟨#[u0, u1, v, .pointer (some ⟨pb, 0, none⟩), x4, x5, u6, x7, u8, u9, u10, u11, u12, x13, x14, x15, x16, x17, x18, x19, x20, x21, x22, x23, x24, x25, x26, x27, x28, x29, x30, x31, x32, x33, x34, x35, x36, x37, x38, x39, x40, x41, x42, x43, x44, x45, x46, x47, x48, x49, x50, x51, x52, x53, x54, x55, x56, x57, x58, x59, x60, x61], []⟩ wd) :
    (fromOf Try.f43 4).wp Try.prog Q ⟨#[u0, u1, u2, .pointer (some ⟨pb, 0, none⟩), u4, u5, u6, u7, u8, u9, u10, u11, u12, u13, u14, u15, u16, u17, u18, u19, u20, u21, u22, u23, u24, u25, u26, u27, u28, u29, u30, u31, u32, u33, u34, u35, u36, u37, u38, u39, u40, u41, u42, u43, u44, u45, u46, u47, u48, u49, u50, u51, u52, u53, u54, u55, u56, u57, u58, u59, u60, u61], []⟩ w := by
  have HQ := Lib.hid hQ
  have HP := Lib.hid hP
  clear hQ hP
  have HN := Lib.hid H.out.held.len.1
  have n64 : (n : Int) ≤ 2147483648 := by have := ok.out.len; have := HN.out; omega
  have u1 := u64_of X.step
  have u2 : IntKind.u64.wrap (n : Int) = bv (BitVec.ofInt 64 (n : Int)) := u64_of _
  have HR := Lib.hid (show HeadR pb X.step (.slice ao n ca) w from ⟨cell_of_row _ _ 0 _ _ _ H.out.row, cell_of_row _ _ 1 _ _ _ H.out.row⟩)
  have q0 : ∀ p : In (HeadR pb X.step (.slice ao n ca)), p.w.cell? ⟨pb, 0, none⟩ = some (.int .i64 X.step) := fun p => p.h.x0
  have q1 : ∀ p : In (HeadR pb X.step (.slice ao n ca)), p.w.cell? ⟨pb, 1, none⟩ = some (.slice ao n ca) := fun p => p.h.x1
  conv => arg 2; whnf
  go_wp2_with fail
  refine wp_region_mixed [0, 1, 2, 3, 4, 6, 7, 8, 9, 10, 11, 5, 12, 13, 14] (HeadR pb X.step (.slice ao n ca)) (by kernel_rfl) (by kernel_rfl) (fun c a d v w h => HP.out c a d v w h) (HR.out.below (below_drew _)) ?_
  intro hne
  simp only [pick, List.map_cons, List.map_nil, List.getD_cons_zero, List.getD_cons_succ]
  refine wpMix_reads 11 _ (by kernel_rfl) ?_
  simp only [List.take_succ_cons, List.take_zero, List.drop_succ_cons, List.drop_zero]
  repeat (go_big_quiet_step (fail))
  refine wpQuiet_nil ?_
  refine wpMix_act rfl ?_ rfl
  try dsimp only
  go_wp2_with fail
  refine (wire_varint (BitVec.ofInt 64 X.step) w.drew).mono ?_
  rintro e w1 ⟨v1, rfl, ho1, hb1⟩
  have B1 := Lib.hid (below_trans (below_drew w) hb1)
  have O1 := Lib.hid ho1
  clear ho1 hb1
  try dsimp only
  go_wp2_with fail
  refine ⟨⟨⟨_, HR.out.below B1.out⟩, rfl⟩, ?_⟩
  refine wpMix_act rfl ?_ rfl
  try dsimp only
  go_wp2_with fail
  refine (wire_varint (BitVec.ofInt 64 (n : Int)) w1).mono ?_
  rintro e w2 ⟨v2, rfl, ho2, hb2⟩
  obtain ⟨a2, c2, rfl, x2, n2, -, -, -⟩ := ho2.slice
  have B2 := Lib.hid (below_trans B1.out hb2)
  have O2 := Lib.hid (O1.out.keep hb2)
  have X2 := Lib.hid x2
  have N2 := Lib.hid n2
  have V1 := Lib.hid (varint_len (BitVec.ofInt 64 X.step))
  have V2 := Lib.hid (varint_len (BitVec.ofInt 64 (n : Int)))
  clear ho2 hb2 x2 n2
  try dsimp only
  go_wp2_with fail
  refine ⟨⟨⟨_, HR.out.below B2.out⟩, rfl⟩, ?_⟩
  refine wpMix_act rfl ?_ rfl
  try dsimp only
  go_wp2_with (refine wpList_append_bytes (o := ⟨some 26, _, _, _, _, _⟩) rfl _ _ rfl w.heap.size v1 _ rfl O2.out a2 _ c2 (varint (BitVec.ofInt 64 (n : Int))) rfl rfl X2.out N2.out (by have := V1.out; have := V2.out; omega) B2.out.size ?_)
  intro v3 w3 ho3 hg3 hi3
  have B3 := Lib.hid (grown_low B2.out O2.out hg3)
  have O3 := Lib.hid (show OwnB w3 w.heap.size v3 (preI X ++ entsB ⟨0, 0⟩ (X.l.take 0)) from by
    have e : preI X ++ entsB ⟨0, 0⟩ (X.l.take 0) = varint (BitVec.ofInt 64 X.step) ++ varint (BitVec.ofInt 64 (n : Int)) := by
      unfold preI numL
      rw [HN.out, List.take_zero, entsB, List.append_nil]
    rw [e]; exact ho3)
  clear ho3 hg3 hi3
  go_wp2_with fail
  refine ⟨⟨⟨_, HR.out.below B3.out⟩, rfl⟩, ?_⟩
  refine wpMix_reads 1 _ (by kernel_rfl) ?_
  simp only [List.take_succ_cons, List.take_zero, List.drop_succ_cons, List.drop_zero]
  repeat (go_big_quiet_step (fail))
  refine wpQuiet_nil ?_
  refine wpMix_nil ?_
  clear hne q0 q1 u1 u2
  have b4 := below_alloc w3 (.cells #[.int .i64 0, .int .i64 0] 64)
  have n4 := heap_alloc_new w3 (.cells #[.int .i64 0, .int .i64 0] 64)
  have Y4 := Lib.hid (show ByI w w3.heap.size X v3 0 (w3.alloc (.cells #[.int .i64 0, .int .i64 0] 64)) from ⟨n4, O3.out.keep b4, below_trans B3.out b4, B3.out.size⟩)
  have H4 := H.out.keep Y4.out.low
  have x1 := cell_of_row _ _ 1 _ _ _ H4.row
  clear b4 n4 H4
  try dsimp only
  go_wp2_with fail
  go_loopw [4, 33] (fun v i wr => ∃ (k : Nat) (v' : Value), k ≤ n ∧ v = v' ∧ i = .int .i64 k ∧ Hid (ByI w w3.heap.size X v' k wr)) (fun _ i _ => n - (intOf i).toNat)
  case atStart => exact ⟨0, v3, by omega, rfl, rfl, Y4⟩
  case round =>
    clear Y4 x1
    obtain ⟨k, v, hk, rfl, rfl, Y⟩ := hrel
    by_cases hlt : k < n
    · obtain ⟨g, rfl, -, hc, -⟩ := (H.out.keep Y.out.low).held.get (i := k) (by have := HN.out; omega)
      have PV := ok.out.prev (k := k) (by have := HN.out; omega)
      have PE := ok.out.ent k (by have := HN.out; omega)
      have LS := ok.out.lsn
      have LO := ok.out.off
      have HT := Lib.hid (entsB_take (L := X.l) (k := k) (by have := HN.out; omega))
      have LB := Lib.hid (entsB_len ⟨0, 0⟩ (X.l.take k))
      have LT := Lib.hid (show (X.l.take k).length ≤ 2147483648 from by have := ok.out.len; rw [List.length_take]; omega)
      have LP := Lib.hid (preI_len X)
      obtain ⟨e, he⟩ : ∃ e, nthE X.l k = e := ⟨_, rfl⟩
      obtain ⟨a, ha⟩ : ∃ a, prevE X.l k = a := ⟨_, rfl⟩
      rw [he] at hc PV PE
      rw [ha] at PV
      have HE := Lib.hid he
      have HA := Lib.hid ha
      obtain ⟨d0, d1⟩ := hc
      have hbx := Y.out.box
      rw [ha] at hbx
      have b1 := below_alloc wr (.cells #[.int .i64 e.lsn, .int .i64 e.off] 64)
      have E1 := Lib.hid (show EntBox w3.heap.size wr.heap.size a e (wr.alloc (.cells #[.int .i64 e.lsn, .int .i64 e.off] 64)) from ⟨(b1.block _ (heap_lt hbx)).trans hbx, heap_alloc_new wr _⟩)
      have BA := Lib.hid (below_trans Y.out.low b1)
      have OA := Lib.hid (Y.out.own.keep b1)
      have z1 : IntKind.i64.wrap (e.lsn - a.lsn) = e.lsn - a.lsn := IntWalk.i64_in _ (by omega)
      have z2 : IntKind.i64.wrap (e.off - a.off) = e.off - a.off := IntWalk.i64_in _ (by omega)
      have z3 := u64_of (e.lsn - a.lsn)
      have z4 := u64_of (e.off - a.off)
      have kz : (k : Int) < (n : Int) := by omega
      have s0 := cell_of_row _ _ 0 _ _ _ E1.out.ent
      have s1 := cell_of_row _ _ 0 _ _ _ E1.out.box
      clear b1 hbx he ha PV PE LS LO
      go_wp2_with fail
      refine (wire_varint (BitVec.ofInt 64 (e.lsn - a.lsn)) _).mono ?_
      rintro x w5 ⟨v5, rfl, ho5, hb5⟩
      obtain ⟨a5, c5, rfl, x5, n5, -, -, -⟩ := ho5.slice
      have B5 := Lib.hid (below_trans BA.out hb5)
      have O5 := Lib.hid (OA.out.keep hb5)
      have E5 := Lib.hid (E1.out.keep hb5)
      have X5 := Lib.hid x5
      have N5 := Lib.hid n5
      have V5 := Lib.hid (varint_len (BitVec.ofInt 64 (e.lsn - a.lsn)))
      clear ho5 hb5 x5 n5 s0 s1 d0 d1 z1 z3 BA OA E1
      go_wp2_with (refine wpList_append_bytes (o := ⟨some 45, _, _, _, _, _⟩) rfl _ _ rfl w.heap.size _ _ rfl O5.out a5 _ c5 (varint (BitVec.ofInt 64 (e.lsn - a.lsn))) rfl rfl X5.out N5.out (by have := V5.out; have := LB.out; have := LP.out; have := LT.out; rw [List.length_append]; omega) B5.out.size ?_)
      intro v6 w6 ho6 hg6 hi6
      have B6 := Lib.hid (grown_low B5.out O5.out hg6)
      have O6 := Lib.hid ho6
      have E6 := Lib.hid (E5.out.grown O5.out hg6)
      have s0 := cell_of_row _ _ 1 _ _ _ E6.out.ent
      have s1 := cell_of_row _ _ 1 _ _ _ E6.out.box
      clear ho6 hg6 hi6 E5
      go_wp2_with fail
      refine (wire_varint (BitVec.ofInt 64 (e.off - a.off)) _).mono ?_
      rintro x w7 ⟨v7, rfl, ho7, hb7⟩
      obtain ⟨a7, c7, rfl, x7, n7, -, -, -⟩ := ho7.slice
      have B7 := Lib.hid (below_trans B6.out hb7)
      have O7 := Lib.hid (O6.out.keep hb7)
      have E7 := Lib.hid (E6.out.keep hb7)
      have X7 := Lib.hid x7
      have N7 := Lib.hid n7
      have V7 := Lib.hid (varint_len (BitVec.ofInt 64 (e.off - a.off)))
      clear ho7 hb7 x7 n7 s0 s1 z2 z4 E6 B6 O6
      go_wp2_with (refine wpList_append_bytes (o := ⟨some 54, _, _, _, _, _⟩) rfl _ _ rfl w.heap.size v6 _ rfl O7.out a7 _ c7 (varint (BitVec.ofInt 64 (e.off - a.off))) rfl rfl X7.out N7.out (by have := V7.out; have := V5.out; have := LB.out; have := LP.out; have := LT.out; rw [List.length_append, List.length_append]; omega) B7.out.size ?_)
      intro v8 w8 ho8 hg8 hi8
      have B8 := Lib.hid (grown_low B7.out O7.out hg8)
      have E8 := Lib.hid (E7.out.grown O7.out hg8)
      have NX := Lib.hid (show ByI w w3.heap.size X v8 (k + 1) ((w8.setCell ⟨w3.heap.size, 0, none⟩ (.int .i64 e.lsn)).setCell ⟨w3.heap.size, 1, none⟩ (.int .i64 e.off)) from ⟨by
        rw [show prevE X.l (k + 1) = e from HE.out]
        exact put2 E8.out.box _ _, by
        rw [show preI X ++ entsB ⟨0, 0⟩ (X.l.take (k + 1)) = preI X ++ (entsB ⟨0, 0⟩ (X.l.take k) ++ (varint (BitVec.ofInt 64 (e.lsn - a.lsn)) ++ varint (BitVec.ofInt 64 (e.off - a.off)))) from by rw [HT.out, HE.out, HA.out]; rfl]
        have ne : v8.ownBlock ≠ some w3.heap.size := ownB_ne ho8 E8.out.box
        exact rows_congr ho8 fun j hj => (far_set (fun x => ne (by rw [← x]; exact hj))).trans (far_set (fun x => ne (by rw [← x]; exact hj))), put2_below B8.out Y.out.high _ _, Y.out.high⟩)
      have s0 := cell_of_row _ _ 0 _ _ _ E8.out.ent
      have s1 := cell_of_row _ _ 1 _ _ _ E8.out.ent
      have r0 := cell_of_row _ _ 0 _ _ _ E8.out.box
      have r1 := cell_of_row _ _ 1 _ _ _ E8.out.box
      have f0 := frozen_of_row _ _ 0 _ _ E8.out.box
      have f1 := frozen_of_row _ _ 1 _ _ E8.out.box
      clear ho8 hg8 hi8 E7 B7 O7
      go_wp2_with fail
      go_roundw
      case rel => exact ⟨k + 1, v8, by omega, rfl, by go_num, NX⟩
      case measure => simp [intOf]; omega
    · have hge : (n : Int) ≤ (k : Int) := by omega
      have hk2 : k = n := by omega
      have OX := Lib.hid (show OwnB wr w.heap.size _ (bareI X) from by
        have := Y.out.own
        rw [List.take_of_length_le (by have := HN.out; omega)] at this
        exact this)
      have LX := Lib.hid (show (bareI X).length ≤ 42949673000 from by
        have h1 := preI_len X
        have h2 := entsB_len ⟨0, 0⟩ X.l
        have h3 := ok.out.len
        unfold bareI
        rw [List.length_append]; omega)
      have LW := Lib.hid Y.out.low
      obtain ⟨BB, hBB⟩ : ∃ BB, bareI X = BB := ⟨_, rfl⟩
      have HBB := Lib.hid (show idxB X = BB ++ fixedL ((Crc.sum BB).setWidth 64) 4 from by unfold idxB; rw [hBB])
      rw [hBB] at OX LX
      clear hBB hk2 Y
      go_wp2_with fail
      refine (cat_sum_to _ w.heap.size BB wr OX.out (by have := LX.out; omega)).mono ?_
      rintro x y0 ⟨rfl, hb0⟩
      have B0 := Lib.hid (below_trans LW.out hb0)
      have O0 := Lib.hid (OX.out.keep hb0)
      clear hb0
      try dsimp only
      go_wp2_with fail
      refine (wire_fixed32_n (Crc.sum BB) _).mono ?_
      rintro x y1 ⟨af, ys, cf, rfl, hys, hya, hyn, hby⟩
      have BY := Lib.hid (below_trans B0.out hby)
      have OY := Lib.hid (O0.out.keep hby)
      have EY := Lib.hid hys
      have AY := Lib.hid hya
      have NY := Lib.hid hyn
      have LY := Lib.hid (show ys.length = 4 by rw [hys, fixedL_len])
      clear hys hya hyn hby B0 O0
      try dsimp only
      go_wp2_with (refine wpList_append_bytes (o := ⟨some 61, _, _, _, _, _⟩) rfl _ _ rfl w.heap.size _ BB rfl OY.out af _ cf ys rfl rfl AY.out NY.out (by have := LY.out; have := LX.out; omega) BY.out.size ?_)
      intro v8 w8 ho8 hg8 hi8
      have B8 := Lib.hid (grown_low BY.out OY.out hg8)
      have O8 := Lib.hid (show OwnB w8 w.heap.size v8 (idxB X) from by rw [HBB.out, ← EY.out]; exact ho8)
      clear ho8 hg8 hi8
      go_wp2_with fail
      exact HQ.out _ _ _ _ _ _ _ _ _ _ _ _ _ _ _ _ _ _ _ _ _ _ _ _ _ _ _ _ _ _ _ _ _ _ _ _ _ _ _ _ _ _ _ _ _ _ _ _ _ _ _ _ _ _ O8.out B8.out
set_option maxRecDepth 100000 in
set_option maxHeartbeats 4000000 in
theorem idx_bytes (base xb n ca : Nat) (X : IdxV) (ao : Option Addr) (w : World) (H : Hid (IdxAt w base xb X ao n ca)) (ok : Hid (IdxOk X)) :
    Calls Try.prog 43 #[.pointer (some ⟨xb, 0, none⟩)] w fun e w' => ∃ v, e = .returned v ∧ OwnB w' w.heap.size v (idxB X) ∧ Below w.heap.size w w' := by
  have b1 := below_alloc w (.cells #[.int .i64 1, .slice none 0 0, .bool false, .int .i64 0, .int .i64 0] 85)
  have H1 := Lib.hid (H.out.keep b1)
  have B1 := Lib.hid b1
  have x0 := cell_of_row _ _ 0 _ _ _ H1.out.row
  have st0 := ok.out.step.1
  clear b1
  go_enter Try.func43, Try.ntmps43
  go_wp2_with fail
  refine (idx_made xb X.step true _ x0 (decide_eq_true (by omega))).mono ?_
  rintro e w' ⟨rfl, rfl⟩
  obtain ⟨w1, hw1⟩ : ∃ w1, w.alloc (.cells #[.int .i64 1, .slice none 0 0, .bool false, .int .i64 0, .int .i64 0] 85) = w1 := ⟨_, rfl⟩
  rw [hw1] at H1 B1 x0
  rw [hw1]
  clear hw1
  go_upto_if 11 with (fail)
  go_cut [3] (fun v wc => v = .pointer (some ⟨xb, 0, none⟩) ∧ wc = w1)
  case first =>
    go_wp2_with fail
    go_meet
    exact ⟨rfl, rfl⟩
  case rest =>
    obtain ⟨rfl, rfl⟩ := hcut
    go_step
    refine bytes_rest base xb n ca X ao _ _ _ _ _ _ _ _ _ _ _ _ _ _ _ _ _ _ _ _ _ _ _ _ _ _ _ _ _ _ _ _ _ _ _ _ _ _ _ _ _ _ _ _ _ _ _ _ _ _ _ _ _ _ _ _ _ _ _ _ _ _ _ ?hp H1 ok ?_
    case hp => exact fun c a d v w h => by cases d <;> exact h
    · intro wd v x4 x5 x7 x13 x14 x15 x16 x17 x18 x19 x20 x21 x22 x23 x24 x25 x26 x27 x28 x29 x30 x31 x32 x33 x34 x35 x36 x37 x38 x39 x40 x41 x42 x43 x44 x45 x46 x47 x48 x49 x50 x51 x52 x53 x54 x55 x56 x57 x58 x59 x60 x61 hv hb
      have V := Lib.hid hv
      have B := Lib.hid (below_trans B1.out hb)
      have BB1 := Lib.hid B1.out.size
      clear hv hb
      go_ret
      exact ⟨_, rfl, rows_base V.out BB1.out, B.out⟩
set_option maxRecDepth 100000 in
set_option maxHeartbeats 4000000 in
/-- Of an index that is none. -/
theorem idx_bytes_none (p : Option Addr) (w : World) (hp : p = none ∨ ∃ xb, p = some ⟨xb, 0, none⟩ ∧ w.cell? ⟨xb, 0, none⟩ = some (.int .i64 0)) :
    Calls Try.prog 43 #[.pointer p] w fun e w' => ∃ v, e = .returned v ∧ OwnB w' w.heap.size v (idxB (idx0 1)) ∧ Below w.heap.size w w' := by
  have b1 := below_alloc w (.cells #[.int .i64 1, .slice none 0 0, .bool false, .int .i64 0, .int .i64 0] 85)
  have n1 := heap_alloc_new w (.cells #[.int .i64 1, .slice none 0 0, .bool false, .int .i64 0, .int .i64 0] 85)
  have B1 := Lib.hid b1
  have H1 := Lib.hid (show IdxAt (w.alloc (.cells #[.int .i64 1, .slice none 0 0, .bool false, .int .i64 0, .int .i64 0] 85)) w.heap.size w.heap.size (idx0 1) none 0 0 from ⟨n1, HeldE.nil _ _, Nat.le_refl _⟩)
  have MD : Calls Try.prog 88 #[.pointer p] (w.alloc (.cells #[.int .i64 1, .slice none 0 0, .bool false, .int .i64 0, .int .i64 0] 85)) fun e w' => e = .returned (.bool false) ∧ (w.alloc (.cells #[.int .i64 1, .slice none 0 0, .bool false, .int .i64 0, .int .i64 0] 85)) = w' := by
    rcases hp with rfl | ⟨xb, rfl, hc⟩
    · exact idx_made_nil _
    · exact idx_made xb 0 false _ (cell_keep b1 hc) (by decide)
  clear b1 n1
  go_enter Try.func43, Try.ntmps43
  go_wp2_with fail
  refine MD.mono ?_
  rintro e w' ⟨rfl, rfl⟩
  clear MD
  obtain ⟨q, hq⟩ : ∃ q, w.heap.size = q := ⟨_, rfl⟩
  have HQ := Lib.hid hq
  obtain ⟨w1, hw1⟩ : ∃ w1, w.alloc (.cells #[.int .i64 1, .slice none 0 0, .bool false, .int .i64 0, .int .i64 0] 85) = w1 := ⟨_, rfl⟩
  rw [hw1] at H1 B1
  rw [hw1]
  rw [hq] at H1 ⊢
  clear hw1 hq
  go_upto_if 11 with (fail)
  go_cut [3] (fun v wc => v = .pointer (some ⟨q, 0, none⟩) ∧ wc = w1)
  case first =>
    go_wp2_with fail
    go_meet
    exact ⟨rfl, rfl⟩
  case rest =>
    obtain ⟨rfl, rfl⟩ := hcut
    go_step
    refine bytes_rest q q 0 0 (idx0 1) none _ _ _ _ _ _ _ _ _ _ _ _ _ _ _ _ _ _ _ _ _ _ _ _ _ _ _ _ _ _ _ _ _ _ _ _ _ _ _ _ _ _ _ _ _ _ _ _ _ _ _ _ _ _ _ _ _ _ _ _ _ _ _ ?hp H1 (Lib.hid (idx0_ok (by decide) (by decide))) ?_
    case hp => exact fun c a d v w h => by cases d <;> exact h
    · intro wd v x4 x5 x7 x13 x14 x15 x16 x17 x18 x19 x20 x21 x22 x23 x24 x25 x26 x27 x28 x29 x30 x31 x32 x33 x34 x35 x36 x37 x38 x39 x40 x41 x42 x43 x44 x45 x46 x47 x48 x49 x50 x51 x52 x53 x54 x55 x56 x57 x58 x59 x60 x61 hv hb
      have V := Lib.hid hv
      have B := Lib.hid (below_trans B1.out hb)
      have BB1 := Lib.hid B1.out.size
      clear hv hb
      go_ret
      rw [← HQ.out]
      exact ⟨_, rfl, rows_base V.out BB1.out, B.out⟩
end Go.Proofs.Ytmkljmljbbijeaa

/-! The document's index as bytes: Bytes walked. -/
namespace Go.Proofs.Ytmkljmljbbijeaa
open Go.RowKit

theorem ref_varint_to (x n : Int) (w : World) (hx : x = bv (BitVec.ofInt 64 n)) :
    Calls Try.prog 59 #[.int .u64 x] w fun e w' => ∃ v, e = .returned v ∧ OwnB w' w.heap.size v (numL n) ∧ Below w.heap.size w w' := by
  subst hx; exact ref_varint _ w
structure RByR (yb g k q : Nat) (v : Value) (e a : EntV) (w : World) : Prop where
  x1 : w.cell? ⟨yb, 1, none⟩ = some v
  d0 : w.cell? ⟨g, k * 2, none⟩ = some (.int .i64 e.lsn)
  d1 : w.cell? ⟨g, k * 2 + 1, none⟩ = some (.int .i64 e.off)
  s0 : w.cell? ⟨q, 0, none⟩ = some (.int .i64 a.lsn)
  s1 : w.cell? ⟨q, 1, none⟩ = some (.int .i64 a.off)
theorem RByR.below {yb g k q : Nat} {v : Value} {e a : EntV} {w w' : World} (h : RByR yb g k q v e a w) (hb : Below w.heap.size w w') : RByR yb g k q v e a w' := ⟨cell_keep hb h.x1, cell_keep hb h.d0, cell_keep hb h.d1, cell_keep hb h.s0, cell_keep hb h.s1⟩
theorem rby_of {w : World} {base yb g k q n ca : Nat} {X : IdxV} {e a : EntV} (h : RefAt w base yb X (some ⟨g, 0, none⟩) n ca) (hk : k < X.l.length) (he : nthE X.l k = e) (hq : w.heap[q]? = some (.cells #[.int .i64 a.lsn, .int .i64 a.off] 64 (0, 0))) : RByR yb g k q (.slice (some ⟨g, 0, none⟩) n ca) e a w := by
  obtain ⟨g', e', -, hc, -⟩ := (HeldE.of_own h.own).get hk
  injection e' with e'
  injection e' with e'
  subst e' he
  exact ⟨cell_of_row _ _ 1 _ _ _ h.row, hc.c0, hc.c1, cell_of_row _ _ 0 _ _ _ hq, cell_of_row _ _ 1 _ _ _ hq⟩

set_option maxRecDepth 100000 in
set_option maxHeartbeats 8000000 in
theorem ref_bytes (base yb n ca : Nat) (X : IdxV) (ao : Option Addr) (w : World) (H : Hid (RefAt w base yb X ao n ca)) (ok : Hid (IdxOk X)) :
    Calls Try.prog 49 #[.pointer (some ⟨yb, 0, none⟩)] w fun e w' => ∃ v, e = .returned v ∧ OwnB w' w.heap.size v (idxB X) ∧ Below w.heap.size w w' := by
  have HN := Lib.hid H.out.len.1
  have n64 : (n : Int) ≤ 2147483648 := by have := ok.out.len; have := HN.out; omega
  have x0 := cell_of_row _ _ 0 _ _ _ H.out.row
  have u1 := u64_of X.step
  have u2 : IntKind.u64.wrap (n : Int) = bv (BitVec.ofInt 64 (n : Int)) := u64_of _
  go_enter Try.func49, Try.ntmps49
  go_wp2_with fail
  refine (ref_varint_to _ X.step w (by first | rfl | exact u64_of _)).mono ?_
  rintro x w1 ⟨v1, rfl, ho1, hb1⟩
  have B1 := Lib.hid hb1
  have O1 := Lib.hid ho1
  have x1 := cell_of_row _ _ 1 _ _ _ (H.out.keep hb1).row
  clear ho1 hb1 x0
  go_wp2_with fail
  refine (ref_varint_to _ (n : Int) w1 (by first | rfl | exact u64_of _)).mono ?_
  rintro x w2 ⟨v2, rfl, ho2, hb2⟩
  obtain ⟨a2, c2, rfl, x2, n2, -, -, -⟩ := ho2.slice
  have B2 := Lib.hid (below_trans B1.out hb2)
  have O2 := Lib.hid (O1.out.keep hb2)
  have X2 := Lib.hid x2
  have N2 := Lib.hid n2
  have V1 := Lib.hid (numL_len X.step)
  have V2 := Lib.hid (numL_len (n : Int))
  clear ho2 hb2 x2 n2 x1 u1 u2
  go_wp2_with (refine wpList_append_bytes (o := ⟨some 20, _, _, _, _, _⟩) rfl _ _ rfl w.heap.size v1 _ rfl O2.out a2 _ c2 (numL (n : Int)) rfl rfl X2.out N2.out (by have := V1.out; have := V2.out; omega) B2.out.size ?_)
  intro v3 w4 ho3 hg3 hi3
  have B3 := Lib.hid (grown_low B2.out O2.out hg3)
  have O3 := Lib.hid (show OwnB w4 w.heap.size v3 (preI X ++ entsB ⟨0, 0⟩ (X.l.take 0)) from by
    have e : preI X ++ entsB ⟨0, 0⟩ (X.l.take 0) = numL X.step ++ numL (n : Int) := by
      unfold preI
      rw [HN.out, List.take_zero, entsB, List.append_nil]
    rw [e]; exact ho3)
  have b4 := below_alloc w4 (.cells #[.int .i64 0, .int .i64 0] 64)
  have n4 := heap_alloc_new w4 (.cells #[.int .i64 0, .int .i64 0] 64)
  have Y4 := Lib.hid (show ByI w w4.heap.size X v3 0 (w4.alloc (.cells #[.int .i64 0, .int .i64 0] 64)) from ⟨n4, O3.out.keep b4, below_trans B3.out b4, B3.out.size⟩)
  clear b4 n4 ho3 hg3 hi3
  go_wp2_with fail
  go_loopw [3, 5] (fun v i wr => ∃ (k : Nat) (v' : Value), k ≤ n ∧ v = v' ∧ i = .int .i64 k ∧ Hid (ByI w w4.heap.size X v' k wr)) (fun _ i _ => n - (intOf i).toNat)
  case atStart => exact ⟨0, v3, by omega, rfl, rfl, Y4⟩
  case round =>
    clear Y4
    obtain ⟨k, vv, hk, rfl, rfl, Y⟩ := hrel
    have x1 := cell_of_row _ _ 1 _ _ _ (H.out.keep Y.out.low).row
    by_cases hlt : k < n
    · obtain ⟨g, rfl, -, -, -⟩ := (HeldE.of_own (H.out.keep Y.out.low).own).get (i := k) (by have := HN.out; omega)
      have PV := ok.out.prev (k := k) (by have := HN.out; omega)
      have PE := ok.out.ent k (by have := HN.out; omega)
      have LS := ok.out.lsn
      have LO := ok.out.off
      have HT := Lib.hid (entsB_take (L := X.l) (k := k) (by have := HN.out; omega))
      obtain ⟨S0, hS0⟩ : ∃ S0, preI X ++ entsB ⟨0, 0⟩ (X.l.take k) = S0 := ⟨_, rfl⟩
      have L0 := Lib.hid (show S0.length ≤ 42949673000 from by
        have h1 := entsB_len ⟨0, 0⟩ (X.l.take k)
        have h2 := preI_len X
        have h3 := ok.out.len
        have h4 : (X.l.take k).length ≤ k := by rw [List.length_take]; omega
        rw [← hS0, List.length_append]
        have := HN.out
        omega)
      have HS0 := Lib.hid hS0
      obtain ⟨e, he⟩ : ∃ e, nthE X.l k = e := ⟨_, rfl⟩
      obtain ⟨a, ha⟩ : ∃ a, prevE X.l k = a := ⟨_, rfl⟩
      rw [he] at PV PE
      rw [ha] at PV
      have HE := Lib.hid he
      have HA := Lib.hid ha
      have hbx := Y.out.box
      rw [ha] at hbx
      have XB := Lib.hid hbx
      have OB := Lib.hid (show OwnB wr w.heap.size _ S0 from hS0 ▸ Y.out.own)
      have BB := Lib.hid Y.out.low
      have HH := Lib.hid Y.out.high
      have z1 : IntKind.i64.wrap (e.lsn - a.lsn) = e.lsn - a.lsn := IntWalk.i64_in _ (by omega)
      have z2 : IntKind.i64.wrap (e.off - a.off) = e.off - a.off := IntWalk.i64_in _ (by omega)
      have z3 := u64_of (e.lsn - a.lsn)
      have z4 := u64_of (e.off - a.off)
      have kz : (k : Int) < (n : Int) := by omega
      clear hbx he ha PV PE LS LO hS0 Y
      have q0 : ∀ p : In (RByR yb g k w4.heap.size (.slice (some ⟨g, 0, none⟩) n ca) e a), p.w.cell? ⟨yb, 1, none⟩ = some (.slice (some ⟨g, 0, none⟩) n ca) := fun p => p.h.x1
      have q1 : ∀ p : In (RByR yb g k w4.heap.size (.slice (some ⟨g, 0, none⟩) n ca) e a), p.w.cell? ⟨g, k * 2, none⟩ = some (.int .i64 e.lsn) := fun p => p.h.d0
      have q2 : ∀ p : In (RByR yb g k w4.heap.size (.slice (some ⟨g, 0, none⟩) n ca) e a), p.w.cell? ⟨g, k * 2 + 1, none⟩ = some (.int .i64 e.off) := fun p => p.h.d1
      have q3 : ∀ p : In (RByR yb g k w4.heap.size (.slice (some ⟨g, 0, none⟩) n ca) e a), p.w.cell? ⟨w4.heap.size, 0, none⟩ = some (.int .i64 a.lsn) := fun p => p.h.s0
      have q4 : ∀ p : In (RByR yb g k w4.heap.size (.slice (some ⟨g, 0, none⟩) n ca) e a), p.w.cell? ⟨w4.heap.size, 1, none⟩ = some (.int .i64 a.off) := fun p => p.h.s1
      go_wp2_with fail
      refine wp_region_mixed [0, 1, 2, 3, 4, 5, 6, 7, 8, 9, 10, 11, 12, 13, 14, 15] (RByR yb g k w4.heap.size (.slice (some ⟨g, 0, none⟩) n ca) e a) (by kernel_rfl) (by kernel_rfl) (by intro c a d v w h; cases d <;> exact h) ((rby_of (H.out.keep BB.out) (by have := HN.out; omega) HE.out XB.out).below (below_drew _)) ?_
      intro hne
      simp only [pick, List.map_cons, List.map_nil, List.getD_cons_zero, List.getD_cons_succ]
      refine wpMix_reads 13 _ (by kernel_rfl) ?_
      simp only [List.take_succ_cons, List.take_zero, List.drop_succ_cons, List.drop_zero]
      repeat (go_big_quiet_step (fail))
      refine wpQuiet_nil ?_
      refine wpMix_act rfl ?_ rfl
      go_wp2_with fail
      refine (ref_varint_to _ (e.lsn - a.lsn) wr.drew (by first | rfl | exact u64_of _)).mono ?_
      rintro x w5 ⟨v5, rfl, ho5, hb5⟩
      obtain ⟨a5, c5, rfl, x5, m5, -, -, -⟩ := ho5.slice
      have bq := below_trans (below_drew wr) hb5
      have B5 := Lib.hid (below_trans BB.out bq)
      have O5 := Lib.hid (OB.out.keep bq)
      have E5 := Lib.hid ((bq.block _ (heap_lt XB.out)).trans XB.out)
      have X5 := Lib.hid x5
      have N5 := Lib.hid m5
      have V5 := Lib.hid (numL_len (e.lsn - a.lsn))
      clear ho5 hb5 x5 m5 bq
      go_wp2_with fail
      refine ⟨⟨⟨_, rby_of (H.out.keep B5.out) (by have := HN.out; omega) HE.out E5.out⟩, rfl⟩, ?_⟩
      refine wpMix_act rfl ?_ rfl
      go_wp2_with (refine wpList_append_bytes (o := ⟨some 45, _, _, _, _, _⟩) rfl _ _ rfl w.heap.size _ _ rfl O5.out a5 _ c5 (numL (e.lsn - a.lsn)) rfl rfl X5.out N5.out (by have := V5.out; have := L0.out; omega) B5.out.size ?_)
      intro v6 w6 ho6 hg6 hi6
      have B6 := Lib.hid (grown_low B5.out O5.out hg6)
      have E6 := Lib.hid ((hg6.block _ (heap_lt E5.out) (fun x => ownB_ne O5.out E5.out x.symm)).trans E5.out)
      have O6 := Lib.hid (show OwnB w6 w.heap.size v6 (S0 ++ numL (e.lsn - a.lsn)) from ho6)
      clear ho6 hg6 hi6 B5 O5 E5 X5 N5
      go_wp2_with fail
      refine ⟨⟨⟨_, rby_of (H.out.keep B6.out) (by have := HN.out; omega) HE.out E6.out⟩, rfl⟩, ?_⟩
      refine wpMix_reads 1 _ (by kernel_rfl) ?_
      simp only [List.take_succ_cons, List.take_zero, List.drop_succ_cons, List.drop_zero]
      repeat (go_big_quiet_step (fail))
      refine wpQuiet_nil ?_
      refine wpMix_nil ?_
      clear hne
      obtain ⟨S1, hS1⟩ : ∃ S1, S0 ++ numL (e.lsn - a.lsn) = S1 := ⟨_, rfl⟩
      have HS1 := Lib.hid hS1
      rw [hS1] at O6
      have L0 := Lib.hid (show S1.length ≤ 42949673100 from by have := L0.out; have := V5.out; rw [← hS1, List.length_append]; omega)
      have B7 := B6
      have O7 := O6
      have E7 := E6
      clear hS1 V5 B6 O6 E6 x1 z1 z3
      go_wp2_with fail
      refine wp_region_mixed [0, 1, 2, 3, 4, 5, 6, 7, 8, 9, 10, 11, 12, 13, 14, 15] (RByR yb g k w4.heap.size (.slice (some ⟨g, 0, none⟩) n ca) e a) (by kernel_rfl) (by kernel_rfl) (by intro c a d v w h; cases d <;> exact h) ((rby_of (H.out.keep B7.out) (by have := HN.out; omega) HE.out E7.out).below (below_drew _)) ?_
      intro hne
      simp only [pick, List.map_cons, List.map_nil, List.getD_cons_zero, List.getD_cons_succ]
      refine wpMix_reads 13 _ (by kernel_rfl) ?_
      simp only [List.take_succ_cons, List.take_zero, List.drop_succ_cons, List.drop_zero]
      repeat (go_big_quiet_step (fail))
      refine wpQuiet_nil ?_
      refine wpMix_act rfl ?_ rfl
      go_wp2_with fail
      refine (ref_varint_to _ (e.off - a.off) w6.drew (by first | rfl | exact u64_of _)).mono ?_
      rintro x w8 ⟨v5, rfl, ho5, hb5⟩
      obtain ⟨a5, c5, rfl, x5, m5, -, -, -⟩ := ho5.slice
      have bq := below_trans (below_drew w6) hb5
      have B5 := Lib.hid (below_trans B7.out bq)
      have O5 := Lib.hid (O7.out.keep bq)
      have E5 := Lib.hid ((bq.block _ (heap_lt E7.out)).trans E7.out)
      have X5 := Lib.hid x5
      have N5 := Lib.hid m5
      have V5 := Lib.hid (numL_len (e.off - a.off))
      clear ho5 hb5 x5 m5 bq
      go_wp2_with fail
      refine ⟨⟨⟨_, rby_of (H.out.keep B5.out) (by have := HN.out; omega) HE.out E5.out⟩, rfl⟩, ?_⟩
      refine wpMix_act rfl ?_ rfl
      go_wp2_with (refine wpList_append_bytes (o := ⟨some 60, _, _, _, _, _⟩) rfl _ _ rfl w.heap.size _ _ rfl O5.out a5 _ c5 (numL (e.off - a.off)) rfl rfl X5.out N5.out (by have := V5.out; have := L0.out; omega) B5.out.size ?_)
      intro v6 w9 ho6 hg6 hi6
      have B6 := Lib.hid (grown_low B5.out O5.out hg6)
      have E6 := Lib.hid ((hg6.block _ (heap_lt E5.out) (fun x => ownB_ne O5.out E5.out x.symm)).trans E5.out)
      have O6 := Lib.hid (show OwnB w9 w.heap.size v6 (S1 ++ numL (e.off - a.off)) from ho6)
      clear ho6 hg6 hi6 B5 O5 E5 X5 N5
      go_wp2_with fail
      refine ⟨⟨⟨_, rby_of (H.out.keep B6.out) (by have := HN.out; omega) HE.out E6.out⟩, rfl⟩, ?_⟩
      refine wpMix_reads 1 _ (by kernel_rfl) ?_
      simp only [List.take_succ_cons, List.take_zero, List.drop_succ_cons, List.drop_zero]
      repeat (go_big_quiet_step (fail))
      refine wpQuiet_nil ?_
      refine wpMix_nil ?_
      clear hne
      clear q0 q1 q2 q3 q4 z2 z4
      have R9 := rby_of (H.out.keep B6.out) (by have := HN.out; omega) HE.out E6.out
      have r0 := R9.x1
      have r1 := R9.d0
      have r2 := R9.d1
      have r3 := R9.s0
      have r4 := R9.s1
      have f0 := frozen_of_row _ _ 0 _ _ E6.out
      have f1 := frozen_of_row _ _ 1 _ _ E6.out
      have NX := Lib.hid (show ByI w w4.heap.size X v6 (k + 1) ((w9.setCell ⟨w4.heap.size, 0, none⟩ (.int .i64 e.lsn)).setCell ⟨w4.heap.size, 1, none⟩ (.int .i64 e.off)) from ⟨by
        rw [show prevE X.l (k + 1) = e from HE.out]
        exact put2 E6.out _ _, by
        rw [show preI X ++ entsB ⟨0, 0⟩ (X.l.take (k + 1)) = S1 ++ numL (e.off - a.off) from by rw [HT.out, HE.out, HA.out, ← List.append_assoc, HS0.out, ← HS1.out]; unfold entB; rw [List.append_assoc]]
        have ne : v6.ownBlock ≠ some w4.heap.size := ownB_ne O6.out E6.out
        exact rows_congr O6.out fun j hj => (far_set (fun x => ne (by rw [← x]; exact hj))).trans (far_set (fun x => ne (by rw [← x]; exact hj))), put2_below B6.out HH.out _ _, HH.out⟩)
      clear R9 V5
      go_wp2_with fail
      go_roundw
      case rel => exact ⟨k + 1, v6, by omega, rfl, by go_num, NX⟩
      case measure => simp [intOf]; omega
    · have hge : (n : Int) ≤ (k : Int) := by omega
      have hk2 : k = n := by omega
      have OX := Lib.hid (show OwnB wr w.heap.size _ (bareI X) from by
        have := Y.out.own
        rw [List.take_of_length_le (by have := HN.out; omega)] at this
        exact this)
      have LX := Lib.hid (show (bareI X).length ≤ 42949673000 from by
        have h1 := preI_len X
        have h2 := entsB_len ⟨0, 0⟩ X.l
        have h3 := ok.out.len
        unfold bareI
        rw [List.length_append]; omega)
      have LW := Lib.hid Y.out.low
      obtain ⟨BB, hBB⟩ : ∃ BB, bareI X = BB := ⟨_, rfl⟩
      have HBB := Lib.hid (show idxB X = BB ++ fixedL ((Crc.sum BB).setWidth 64) 4 from by unfold idxB; rw [hBB])
      rw [hBB] at OX LX
      have m2 := wrap_u64_bv (Crc.sum BB)
      clear hBB hk2 Y
      go_wp2_with fail
      refine (ref_sum_to _ w.heap.size BB wr OX.out (by have := LX.out; omega)).mono ?_
      rintro x y0 ⟨rfl, rfl⟩
      go_wp2_with fail
      refine (ref_fix4 _ (Crc.sum BB) wr (by first | rfl | exact (wrap_u64_bv (Crc.sum BB)))).mono ?_
      rintro x y1 ⟨af, ys, cf, rfl, hys, hya, hyn, hby⟩
      have BY := Lib.hid (below_trans LW.out hby)
      have OY := Lib.hid (OX.out.keep hby)
      have EY := Lib.hid hys
      have AY := Lib.hid hya
      have NY := Lib.hid hyn
      have LY := Lib.hid (show ys.length = 4 by rw [hys, fixedL_len])
      clear hys hya hyn hby x1
      go_wp2_with (refine wpList_append_bytes (o := ⟨some 73, _, _, _, _, _⟩) rfl _ _ rfl w.heap.size _ BB rfl OY.out af _ cf ys rfl rfl AY.out NY.out (by have := LY.out; have := LX.out; omega) BY.out.size ?_)
      intro v8 w8 ho8 hg8 hi8
      have B8 := Lib.hid (grown_low BY.out OY.out hg8)
      have O8 := Lib.hid (show OwnB w8 w.heap.size v8 (idxB X) from by rw [HBB.out, ← EY.out]; exact ho8)
      clear ho8 hg8 hi8 m2
      go_wp2_with fail
      go_ret
      exact ⟨_, rfl, O8.out, B8.out⟩
end Go.Proofs.Ytmkljmljbbijeaa

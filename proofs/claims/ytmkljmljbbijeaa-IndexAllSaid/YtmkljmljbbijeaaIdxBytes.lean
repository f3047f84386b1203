/- An index as bytes, in plain words; index.Bytes walked. -/
import Derived.Test.YtmkljmljbbijeaaIdx
import Derived.Test.YtmkljmljbbijeaaCatNumber
import Derived.Test.YtmkljmljbbijeaaPiece
import Derived.Test.YtmkljmljbbijeaaCatRefWrite
import Derived.Test.YtmkljmljbbijeaaRefRd
import Derived.Test.YtmkljmljbbijeaaPlainCatBack
namespace Go.Proofs.Ytmkljmljbbijeaa
open Go.RowKit

def entB (a e : EntV) : List (BitVec 8) := numL (e.lsn - a.lsn) ++ numL (e.off - a.off)
def entsB : EntV → List EntV → List (BitVec 8)
  | _, [] => []
  | a, e :: L => entB a e ++ entsB e L
def preI (X : IdxV) : List (BitVec 8) := numL X.step ++ numL (X.l.length : Nat)
def bareI (X : IdxV) : List (BitVec 8) := preI X ++ entsB ⟨0, 0⟩ X.l
def idxB (X : IdxV) : List (BitVec 8) := bareI X ++ fixedL ((Crc.sum (bareI X)).setWidth 64) 4
theorem entB_len (a e : EntV) : (entB a e).length ≤ 20 := by
  have h1 := numL_len (e.lsn - a.lsn); have h2 := numL_len (e.off - a.off)
  unfold entB
  rw [List.length_append]; omega
theorem entsB_len : ∀ (a : EntV) (L : List EntV), (entsB a L).length ≤ 20 * L.length
  | _, [] => by simp [entsB]
  | a, e :: L => by
    have h1 := entB_len a e
    have h2 := entsB_len e L
    rw [entsB, List.length_append, List.length_cons]; omega
theorem preI_len (X : IdxV) : (preI X).length ≤ 20 := by
  have h1 := numL_len X.step; have h2 := numL_len (X.l.length : Nat)
  unfold preI
  rw [List.length_append]; omega
def lastD : EntV → List EntV → EntV
  | a, [] => a
  | _, x :: A => lastD x A
theorem entsB_append : ∀ (a : EntV) (A : List EntV) (e : EntV), entsB a (A ++ [e]) = entsB a A ++ entB (lastD a A) e
  | a, [], e => by simp [entsB, lastD]
  | a, x :: A, e => by rw [List.cons_append, entsB, entsB_append x A e, entsB, lastD, List.append_assoc]
theorem lastD_take : ∀ (L : List EntV) (a : EntV) (k : Nat), k < L.length → lastD a (L.take (k + 1)) = nthE L k
  | [], _, _, h => absurd h (by simp)
  | x :: L, a, 0, _ => by simp [lastD, nthE]
  | x :: L, a, k + 1, h => by
    rw [List.take_succ_cons, lastD, lastD_take L x k (by simpa using h)]
    simp [nthE]
def prevE (L : List EntV) : Nat → EntV
  | 0 => ⟨0, 0⟩
  | k + 1 => nthE L k
theorem take_snoc {L : List EntV} {k : Nat} (h : k < L.length) : L.take (k + 1) = L.take k ++ [nthE L k] := by
  rw [List.take_succ_eq_append_getElem h]
  simp [nthE, h]
theorem entsB_take {L : List EntV} {k : Nat} (h : k < L.length) : entsB ⟨0, 0⟩ (L.take (k + 1)) = entsB ⟨0, 0⟩ (L.take k) ++ entB (prevE L k) (nthE L k) := by
  rw [take_snoc h, entsB_append]
  congr 2
  match k, h with
  | 0, _ => rfl
  | k + 1, h => exact lastD_take L _ k (by omega)
theorem IdxOk.prev {X : IdxV} (h : IdxOk X) {k : Nat} (hk : k < X.l.length) : 0 ≤ (prevE X.l k).lsn ∧ (prevE X.l k).lsn ≤ (nthE X.l k).lsn ∧ 0 ≤ (prevE X.l k).off ∧ (prevE X.l k).off ≤ (nthE X.l k).off := by
  match k, hk with
  | 0, hk =>
    have := h.ent 0 hk
    exact ⟨Int.le_refl _, by show (0 : Int) ≤ _; omega, Int.le_refl _, this.2.2.1⟩
  | k + 1, hk =>
    have h1 := h.ent k (by omega)
    have h2 := h.rise k hk
    have h3 := h.step.1
    show 0 ≤ (nthE X.l k).lsn ∧ (nthE X.l k).lsn ≤ _ ∧ 0 ≤ (nthE X.l k).off ∧ (nthE X.l k).off ≤ _
    omega
theorem ownB_ne {w : World} {base q : Nat} {v : Value} {bs : List (BitVec 8)} {cs : Array Value} {f : Nat × Nat} (h : OwnB w base v bs) (hr : w.heap[q]? = some (.cells cs 64 f)) : v.ownBlock ≠ some q := fun e => by
  obtain ⟨-, c, hc⟩ := rows_blk h e
  rw [hr] at hc
  simp at hc
/-- The bytes so far; the entry ahead in its box. -/
structure ByI (w : World) (q : Nat) (X : IdxV) (v : Value) (k : Nat) (wr : World) : Prop where
  box : wr.heap[q]? = some (.cells #[.int .i64 (prevE X.l k).lsn, .int .i64 (prevE X.l k).off] 64 (0, 0))
  own : OwnB wr w.heap.size v (preI X ++ entsB ⟨0, 0⟩ (X.l.take k))
  low : Below w.heap.size w wr
  high : w.heap.size ≤ q
theorem rows_base {w : World} {base base' : Nat} {v : Value} {l : List (BitVec 8)} (h : OwnB w base v l) (hb : base' ≤ base) : OwnB w base' v l :=
  ⟨h.1, by
    rcases h.2 with h0 | ⟨g, cap, cur, e, hg, r⟩
    · exact .inl h0
    · exact .inr ⟨g, cap, cur, e, Nat.le_trans hb hg, r⟩⟩
structure EntBox (q eb : Nat) (a e : EntV) (w : World) : Prop where
  box : w.heap[q]? = some (.cells #[.int .i64 a.lsn, .int .i64 a.off] 64 (0, 0))
  ent : w.heap[eb]? = some (.cells #[.int .i64 e.lsn, .int .i64 e.off] 64 (0, 0))
theorem EntBox.keep {q eb : Nat} {a e : EntV} {w w' : World} (h : EntBox q eb a e w) (hb : Below w.heap.size w w') : EntBox q eb a e w' := ⟨(hb.block _ (heap_lt h.box)).trans h.box, (hb.block _ (heap_lt h.ent)).trans h.ent⟩
theorem EntBox.grown {q eb base : Nat} {a e : EntV} {w w' : World} {v : Value} {bs : List (BitVec 8)} (h : EntBox q eb a e w) (ho : OwnB w base v bs) (hg : w.grownBy w' v.ownBlock) : EntBox q eb a e w' :=
  ⟨(hg.block q (heap_lt h.box) (fun x => ownB_ne ho h.box x.symm)).trans h.box, (hg.block eb (heap_lt h.ent) (fun x => ownB_ne ho h.ent x.symm)).trans h.ent⟩
structure HeadR (pb : Nat) (st : Int) (v : Value) (w : World) : Prop where
  x0 : w.cell? ⟨pb, 0, none⟩ = some (.int .i64 st)
  x1 : w.cell? ⟨pb, 1, none⟩ = some v
theorem HeadR.below {pb : Nat} {st : Int} {v : Value} {w w' : World} (h : HeadR pb st v w) (hb : Below w.heap.size w w') : HeadR pb st v w' := ⟨cell_keep hb h.x0, cell_keep hb h.x1⟩
theorem grown_low {w w1 w2 : World} {v : Value} {bs : List (BitVec 8)} (h : Below w.heap.size w w1) (ho : OwnB w1 w.heap.size v bs) (hg : w1.grownBy w2 v.ownBlock) : Below w.heap.size w w2 := h.grown hg h.size (fun _ hj => (rows_blk ho hj).1)

set_option maxRecDepth 100000 in
set_option maxHeartbeats 8000000 in
theorem bytes_rest (base pb n ca : Nat) (X : IdxV) (ao : Option Addr) (w : World) (Q : Exit → Act → World → Prop)
    (u0 u1 u2 u4 u5 u6 u7 u8 u9 u10 u11 u12 u13 u14 u15 u16 u17 u18 u19 u20 u21 u22 u23 u24 u25 u26 u27 u28 u29 u30 u31 u32 u33 u34 u35 u36 u37 u38 u39 u40 u41 u42 u43 u44 u45 u46 u47 u48 u49 u50 u51 u52 u53 u54 u55 u56 u57 u58 u59 u60 u61 : Value)
    (hP : ∀ (c : List PanicEntry) (a : Act) (d : Option Tmp) (v : Value) (w : World), Q (.panic c) (a.put d v) w → Q (.panic c) a w)
    (H : Hid (IdxAt w base pb X ao n ca)) (ok : Hid (IdxOk X))
    (hQ : ∀ (wd : World) (v : Value) (x4 x5 x7 x13 x14 x15 x16 x17 x18 x19 x20 x21 x22 x23 x24 x25 x26 x27 x28 x29 x30 x31 x32 x33 x34 x35 x36 x37 x38 x39 x40 x41 x42 x43 x44 x45 x46 x47 x48 x49 x50 x51 x52 x53 x54 x55 x56 x57 x58 x59 x60 x61 : Value), OwnB wd w.heap.size v (idxB X) → Below w.heap.size w wd → Q .ret ⟨#[u0, u1, v, .pointer (some ⟨pb, 0, none⟩), x4, x5, u6, x7, u8, u9, u10, u11, u12, x13, x14, x15, x16, x17, x18, x19, x20, x21, x22, x23, x24, x25, x26, x27, x28, x29, x30, x31, x32, x33, x34, x35, x36, x37, x38, x39, x40, x41, x42, x43, x44, x45, x46, x47, x48, x49, x50, x51, x52, x53, x54, x55, x56, x57, x58, x59, x60, x61], []⟩ wd) :
    (fromOf Try.f43 4).wp Try.prog Q ⟨#[u0, u1, u2, .pointer (some ⟨pb, 0, none⟩), u4, u5, u6, u7, u8, u9, u10, u11, u12, u13, u14, u15, u16, u17, u18, u19, u20, u21, u22, u23, u24, u25, u26, u27, u28, u29, u30, u31, u32, u33, u34, u35, u36, u37, u38, u39, u40, u41, u42, u43, u44, u45, u46, u47, u48, u49, u50, u51, u52, u53, u54, u55, u56, u57, u58, u59, u60, u61], []⟩ w := by
  have HQ := Lib.hid hQ
  have HP := Lib.hid hP
  clear hQ hP
  have HN := Lib.hid H.out.held.len.1
  have n64 : (n : Int) ≤ 2147483648 := by have := ok.out.len; have := HN.out; omega
  have u1 := u64_of X.step
  have u2 : IntKind.u64.wrap (n : Int) = bv (BitVec.ofInt 64 (n : Int)) := u64_of _
  have HR := Lib.hid (show HeadR pb X.step (.slice ao n ca) w from ⟨cell_of_row _ _ 0 _ _ _ H.out.row, cell_of_row _ _ 1 _ _ _ H.out.row⟩)
  have q0 : ∀ p : In (HeadR pb X.step (.slice ao n ca)), p.w.cell? ⟨pb, 0, none⟩ = some (.int .i64 X.step) := fun p => p.h.x0
  have q1 : ∀ p : In (HeadR pb X.step (.slice ao n ca)), p.w.cell? ⟨pb, 1, none⟩ = some (.slice ao n ca) := fun p => p.h.x1
  conv => arg 2; whnf
  go_wp2_with fail
  refine wp_region_mixed [0, 1, 2, 3, 4, 6, 7, 8, 9, 10, 11, 5, 12, 13, 14] (HeadR pb X.step (.slice ao n ca)) (by kernel_rfl) (by kernel_rfl) (fun c a d v w h => HP.out c a d v w h) (HR.out.below (below_drew _)) ?_
  intro hne
  simp only [pick, List.map_cons, List.map_nil, List.getD_cons_zero, List.getD_cons_succ]
  refine wpMix_reads 11 _ (by kernel_rfl) ?_
  simp only [List.take_succ_cons, List.take_zero, List.drop_succ_cons, List.drop_zero]
  repeat (go_big_quiet_step (fail))
  refine wpQuiet_nil ?_
  refine wpMix_act rfl ?_ rfl
  try dsimp only
  go_wp2_with fail
  refine (wire_varint (BitVec.ofInt 64 X.step) w.drew).mono ?_
  rintro e w1 ⟨v1, rfl, ho1, hb1⟩
  have B1 := Lib.hid (below_trans (below_drew w) hb1)
  have O1 := Lib.hid ho1
  clear ho1 hb1
  try dsimp only
  go_wp2_with fail
  refine ⟨⟨⟨_, HR.out.below B1.out⟩, rfl⟩, ?_⟩
  refine wpMix_act rfl ?_ rfl
  try dsimp only
  go_wp2_with fail
  refine (wire_varint (BitVec.ofInt 64 (n : Int)) w1).mono ?_
  rintro e w2 ⟨v2, rfl, ho2, hb2⟩
  obtain ⟨a2, c2, rfl, x2, n2, -, -, -⟩ := ho2.slice
  have B2 := Lib.hid (below_trans B1.out hb2)
  have O2 := Lib.hid (O1.out.keep hb2)
  have X2 := Lib.hid x2
  have N2 := Lib.hid n2
  have V1 := Lib.hid (varint_len (BitVec.ofInt 64 X.step))
  have V2 := Lib.hid (varint_len (BitVec.ofInt 64 (n : Int)))
  clear ho2 hb2 x2 n2
  try dsimp only
  go_wp2_with fail
  refine ⟨⟨⟨_, HR.out.below B2.out⟩, rfl⟩, ?_⟩
  refine wpMix_act rfl ?_ rfl
  try dsimp only
  go_wp2_with (refine wpList_append_bytes (o := ⟨some 26, _, _, _, _, _⟩) rfl _ _ rfl w.heap.size v1 _ rfl O2.out a2 _ c2 (varint (BitVec.ofInt 64 (n : Int))) rfl rfl X2.out N2.out (by have := V1.out; have := V2.out; omega) B2.out.size ?_)
  intro v3 w3 ho3 hg3 hi3
  have B3 := Lib.hid (grown_low B2.out O2.out hg3)
  have O3 := Lib.hid (show OwnB w3 w.heap.size v3 (preI X ++ entsB ⟨0, 0⟩ (X.l.take 0)) from by
    have e : preI X ++ entsB ⟨0, 0⟩ (X.l.take 0) = varint (BitVec.ofInt 64 X.step) ++ varint (BitVec.ofInt 64 (n : Int)) := by
      unfold preI numL
      rw [HN.out, List.take_zero, entsB, List.append_nil]
    rw [e]; exact ho3)
  clear ho3 hg3 hi3
  go_wp2_with fail
  refine ⟨⟨⟨_, HR.out.below B3.out⟩, rfl⟩, ?_⟩
  refine wpMix_reads 1 _ (by kernel_rfl) ?_
  simp only [List.take_succ_cons, List.take_zero, List.drop_succ_cons, List.drop_zero]
  repeat (go_big_quiet_step (fail))
  refine wpQuiet_nil ?_
  refine wpMix_nil ?_
  clear hne q0 q1 u1 u2
  have b4 := below_alloc w3 (.cells #[.int .i64 0, .int .i64 0] 64)
  have n4 := heap_alloc_new w3 (.cells #[.int .i64 0, .int .i64 0] 64)
  have Y4 := Lib.hid (show ByI w w3.heap.size X v3 0 (w3.alloc (.cells #[.int .i64 0, .int .i64 0] 64)) from ⟨n4, O3.out.keep b4, below_trans B3.out b4, B3.out.size⟩)
  have H4 := H.out.keep Y4.out.low
  have x1 := cell_of_row _ _ 1 _ _ _ H4.row
  clear b4 n4 H4
  try dsimp only
  go_wp2_with fail
  go_loopw [4, 33] (fun v i wr => ∃ (k : Nat) (v' : Value), k ≤ n ∧ v = v' ∧ i = .int .i64 k ∧ Hid (ByI w w3.heap.size X v' k wr)) (fun _ i _ => n - (intOf i).toNat)
  case atStart => exact ⟨0, v3, by omega, rfl, rfl, Y4⟩
  case round =>
    clear Y4 x1
    obtain ⟨k, v, hk, rfl, rfl, Y⟩ := hrel
    by_cases hlt : k < n
    · obtain ⟨g, rfl, -, hc, -⟩ := (H.out.keep Y.out.low).held.get (i := k) (by have := HN.out; omega)
      have PV := ok.out.prev (k := k) (by have := HN.out; omega)
      have PE := ok.out.ent k (by have := HN.out; omega)
      have LS := ok.out.lsn
      have LO := ok.out.off
      have HT := Lib.hid (entsB_take (L := X.l) (k := k) (by have := HN.out; omega))
      have LB := Lib.hid (entsB_len ⟨0, 0⟩ (X.l.take k))
      have LT := Lib.hid (show (X.l.take k).length ≤ 2147483648 from by have := ok.out.len; rw [List.length_take]; omega)
      have LP := Lib.hid (preI_len X)
      obtain ⟨e, he⟩ : ∃ e, nthE X.l k = e := ⟨_, rfl⟩
      obtain ⟨a, ha⟩ : ∃ a, prevE X.l k = a := ⟨_, rfl⟩
      rw [he] at hc PV PE
      rw [ha] at PV
      have HE := Lib.hid he
      have HA := Lib.hid ha
      obtain ⟨d0, d1⟩ := hc
      have hbx := Y.out.box
      rw [ha] at hbx
      have b1 := below_alloc wr (.cells #[.int .i64 e.lsn, .int .i64 e.off] 64)
      have E1 := Lib.hid (show EntBox w3.heap.size wr.heap.size a e (wr.alloc (.cells #[.int .i64 e.lsn, .int .i64 e.off] 64)) from ⟨(b1.block _ (heap_lt hbx)).trans hbx, heap_alloc_new wr _⟩)
      have BA := Lib.hid (below_trans Y.out.low b1)
      have OA := Lib.hid (Y.out.own.keep b1)
      have z1 : IntKind.i64.wrap (e.lsn - a.lsn) = e.lsn - a.lsn := IntWalk.i64_in _ (by omega)
      have z2 : IntKind.i64.wrap (e.off - a.off) = e.off - a.off := IntWalk.i64_in _ (by omega)
      have z3 := u64_of (e.lsn - a.lsn)
      have z4 := u64_of (e.off - a.off)
      have kz : (k : Int) < (n : Int) := by omega
      have s0 := cell_of_row _ _ 0 _ _ _ E1.out.ent
      have s1 := cell_of_row _ _ 0 _ _ _ E1.out.box
      clear b1 hbx he ha PV PE LS LO
      go_wp2_with fail
      refine (wire_varint (BitVec.ofInt 64 (e.lsn - a.lsn)) _).mono ?_
      rintro x w5 ⟨v5, rfl, ho5, hb5⟩
      obtain ⟨a5, c5, rfl, x5, n5, -, -, -⟩ := ho5.slice
      have B5 := Lib.hid (below_trans BA.out hb5)
      have O5 := Lib.hid (OA.out.keep hb5)
      have E5 := Lib.hid (E1.out.keep hb5)
      have X5 := Lib.hid x5
      have N5 := Lib.hid n5
      have V5 := Lib.hid (varint_len (BitVec.ofInt 64 (e.lsn - a.lsn)))
      clear ho5 hb5 x5 n5 s0 s1 d0 d1 z1 z3 BA OA E1
      go_wp2_with (refine wpList_append_bytes (o := ⟨some 45, _, _, _, _, _⟩) rfl _ _ rfl w.heap.size _ _ rfl O5.out a5 _ c5 (varint (BitVec.ofInt 64 (e.lsn - a.lsn))) rfl rfl X5.out N5.out (by have := V5.out; have := LB.out; have := LP.out; have := LT.out; rw [List.length_append]; omega) B5.out.size ?_)
      intro v6 w6 ho6 hg6 hi6
      have B6 := Lib.hid (grown_low B5.out O5.out hg6)
      have O6 := Lib.hid ho6
      have E6 := Lib.hid (E5.out.grown O5.out hg6)
      have s0 := cell_of_row _ _ 1 _ _ _ E6.out.ent
      have s1 := cell_of_row _ _ 1 _ _ _ E6.out.box
      clear ho6 hg6 hi6 E5
      go_wp2_with fail
      refine (wire_varint (BitVec.ofInt 64 (e.off - a.off)) _).mono ?_
      rintro x w7 ⟨v7, rfl, ho7, hb7⟩
      obtain ⟨a7, c7, rfl, x7, n7, -, -, -⟩ := ho7.slice
      have B7 := Lib.hid (below_trans B6.out hb7)
      have O7 := Lib.hid (O6.out.keep hb7)
      have E7 := Lib.hid (E6.out.keep hb7)
      have X7 := Lib.hid x7
      have N7 := Lib.hid n7
      have V7 := Lib.hid (varint_len (BitVec.ofInt 64 (e.off - a.off)))
      clear ho7 hb7 x7 n7 s0 s1 z2 z4 E6 B6 O6
      go_wp2_with (refine wpList_append_bytes (o := ⟨some 54, _, _, _, _, _⟩) rfl _ _ rfl w.heap.size v6 _ rfl O7.out a7 _ c7 (varint (BitVec.ofInt 64 (e.off - a.off))) rfl rfl X7.out N7.out (by have := V7.out; have := V5.out; have := LB.out; have := LP.out; have := LT.out; rw [List.length_append, List.length_append]; omega) B7.out.size ?_)
      intro v8 w8 ho8 hg8 hi8
      have B8 := Lib.hid (grown_low B7.out O7.out hg8)
      have E8 := Lib.hid (E7.out.grown O7.out hg8)
      have NX := Lib.hid (show ByI w w3.heap.size X v8 (k + 1) ((w8.setCell ⟨w3.heap.size, 0, none⟩ (.int .i64 e.lsn)).setCell ⟨w3.heap.size, 1, none⟩ (.int .i64 e.off)) from ⟨by
        rw [show prevE X.l (k + 1) = e from HE.out]
        exact put2 E8.out.box _ _, by
        rw [show preI X ++ entsB ⟨0, 0⟩ (X.l.take (k + 1)) = preI X ++ (entsB ⟨0, 0⟩ (X.l.take k) ++ (varint (BitVec.ofInt 64 (e.lsn - a.lsn)) ++ varint (BitVec.ofInt 64 (e.off - a.off)))) from by rw [HT.out, HE.out, HA.out]; rfl]
        have ne : v8.ownBlock ≠ some w3.heap.size := ownB_ne ho8 E8.out.box
        exact rows_congr ho8 fun j hj => (far_set (fun x => ne (by rw [← x]; exact hj))).trans (far_set (fun x => ne (by rw [← x]; exact hj))), put2_below B8.out Y.out.high _ _, Y.out.high⟩)
      have s0 := cell_of_row _ _ 0 _ _ _ E8.out.ent
      have s1 := cell_of_row _ _ 1 _ _ _ E8.out.ent
      have r0 := cell_of_row _ _ 0 _ _ _ E8.out.box
      have r1 := cell_of_row _ _ 1 _ _ _ E8.out.box
      have f0 := frozen_of_row _ _ 0 _ _ E8.out.box
      have f1 := frozen_of_row _ _ 1 _ _ E8.out.box
      clear ho8 hg8 hi8 E7 B7 O7
      go_wp2_with fail
      go_roundw
      case rel => exact ⟨k + 1, v8, by omega, rfl, by go_num, NX⟩
      case measure => simp [intOf]; omega
    · have hge : (n : Int) ≤ (k : Int) := by omega
      have hk2 : k = n := by omega
      have OX := Lib.hid (show OwnB wr w.heap.size _ (bareI X) from by
        have := Y.out.own
        rw [List.take_of_length_le (by have := HN.out; omega)] at this
        exact this)
      have LX := Lib.hid (show (bareI X).length ≤ 42949673000 from by
        have h1 := preI_len X
        have h2 := entsB_len ⟨0, 0⟩ X.l
        have h3 := ok.out.len
        unfold bareI
        rw [List.length_append]; omega)
      have LW := Lib.hid Y.out.low
      obtain ⟨BB, hBB⟩ : ∃ BB, bareI X = BB := ⟨_, rfl⟩
      have HBB := Lib.hid (show idxB X = BB ++ fixedL ((Crc.sum BB).setWidth 64) 4 from by unfold idxB; rw [hBB])
      rw [hBB] at OX LX
      clear hBB hk2 Y
      go_wp2_with fail
      refine (cat_sum_to _ w.heap.size BB wr OX.out (by have := LX.out; omega)).mono ?_
      rintro x y0 ⟨rfl, hb0⟩
      have B0 := Lib.hid (below_trans LW.out hb0)
      have O0 := Lib.hid (OX.out.keep hb0)
      clear hb0
      try dsimp only
      go_wp2_with fail
      refine (wire_fixed32_n (Crc.sum BB) _).mono ?_
      rintro x y1 ⟨af, ys, cf, rfl, hys, hya, hyn, hby⟩
      have BY := Lib.hid (below_trans B0.out hby)
      have OY := Lib.hid (O0.out.keep hby)
      have EY := Lib.hid hys
      have AY := Lib.hid hya
      have NY := Lib.hid hyn
      have LY := Lib.hid (show ys.length = 4 by rw [hys, fixedL_len])
      clear hys hya hyn hby B0 O0
      try dsimp only
      go_wp2_with (refine wpList_append_bytes (o := ⟨some 61, _, _, _, _, _⟩) rfl _ _ rfl w.heap.size _ BB rfl OY.out af _ cf ys rfl rfl AY.out NY.out (by have := LY.out; have := LX.out; omega) BY.out.size ?_)
      intro v8 w8 ho8 hg8 hi8
      have B8 := Lib.hid (grown_low BY.out OY.out hg8)
      have O8 := Lib.hid (show OwnB w8 w.heap.size v8 (idxB X) from by rw [HBB.out, ← EY.out]; exact ho8)
      clear ho8 hg8 hi8
      go_wp2_with fail
      exact HQ.out _ _ _ _ _ _ _ _ _ _ _ _ _ _ _ _ _ _ _ _ _ _ _ _ _ _ _ _ _ _ _ _ _ _ _ _ _ _ _ _ _ _ _ _ _ _ _ _ _ _ _ _ _ _ O8.out B8.out
set_option maxRecDepth 100000 in
set_option maxHeartbeats 4000000 in
theorem idx_bytes (base xb n ca : Nat) (X : IdxV) (ao : Option Addr) (w : World) (H : Hid (IdxAt w base xb X ao n ca)) (ok : Hid (IdxOk X)) :
    Calls Try.prog 43 #[.pointer (some ⟨xb, 0, none⟩)] w fun e w' => ∃ v, e = .returned v ∧ OwnB w' w.heap.size v (idxB X) ∧ Below w.heap.size w w' := by
  have b1 := below_alloc w (.cells #[.int .i64 1, .slice none 0 0, .bool false, .int .i64 0, .int .i64 0] 85)
  have H1 := Lib.hid (H.out.keep b1)
  have B1 := Lib.hid b1
  have x0 := cell_of_row _ _ 0 _ _ _ H1.out.row
  have st0 := ok.out.step.1
  clear b1
  go_enter Try.func43, Try.ntmps43
  go_wp2_with fail
  refine (idx_made xb X.step true _ x0 (decide_eq_true (by omega))).mono ?_
  rintro e w' ⟨rfl, rfl⟩
  obtain ⟨w1, hw1⟩ : ∃ w1, w.alloc (.cells #[.int .i64 1, .slice none 0 0, .bool false, .int .i64 0, .int .i64 0] 85) = w1 := ⟨_, rfl⟩
  rw [hw1] at H1 B1 x0
  rw [hw1]
  clear hw1
  go_upto_if 11 with (fail)
  go_cut [3] (fun v wc => v = .pointer (some ⟨xb, 0, none⟩) ∧ wc = w1)
  case first =>
    go_wp2_with fail
    go_meet
    exact ⟨rfl, rfl⟩
  case rest =>
    obtain ⟨rfl, rfl⟩ := hcut
    go_step
    refine bytes_rest base xb n ca X ao _ _ _ _ _ _ _ _ _ _ _ _ _ _ _ _ _ _ _ _ _ _ _ _ _ _ _ _ _ _ _ _ _ _ _ _ _ _ _ _ _ _ _ _ _ _ _ _ _ _ _ _ _ _ _ _ _ _ _ _ _ _ _ ?hp H1 ok ?_
    case hp => exact fun c a d v w h => by cases d <;> exact h
    · intro wd v x4 x5 x7 x13 x14 x15 x16 x17 x18 x19 x20 x21 x22 x23 x24 x25 x26 x27 x28 x29 x30 x31 x32 x33 x34 x35 x36 x37 x38 x39 x40 x41 x42 x43 x44 x45 x46 x47 x48 x49 x50 x51 x52 x53 x54 x55 x56 x57 x58 x59 x60 x61 hv hb
      have V := Lib.hid hv
      have B := Lib.hid (below_trans B1.out hb)
      have BB1 := Lib.hid B1.out.size
      clear hv hb
      go_ret
      exact ⟨_, rfl, rows_base V.out BB1.out, B.out⟩
set_option maxRecDepth 100000 in
set_option maxHeartbeats 4000000 in
/-- Of an index that is none. -/
theorem idx_bytes_none (p : Option Addr) (w : World) (hp : p = none ∨ ∃ xb, p = some ⟨xb, 0, none⟩ ∧ w.cell? ⟨xb, 0, none⟩ = some (.int .i64 0)) :
    Calls Try.prog 43 #[.pointer p] w fun e w' => ∃ v, e = .returned v ∧ OwnB w' w.heap.size v (idxB (idx0 1)) ∧ Below w.heap.size w w' := by
  have b1 := below_alloc w (.cells #[.int .i64 1, .slice none 0 0, .bool false, .int .i64 0, .int .i64 0] 85)
  have n1 := heap_alloc_new w (.cells #[.int .i64 1, .slice none 0 0, .bool false, .int .i64 0, .int .i64 0] 85)
  have B1 := Lib.hid b1
  have H1 := Lib.hid (show IdxAt (w.alloc (.cells #[.int .i64 1, .slice none 0 0, .bool false, .int .i64 0, .int .i64 0] 85)) w.heap.size w.heap.size (idx0 1) none 0 0 from ⟨n1, HeldE.nil _ _, Nat.le_refl _⟩)
  have MD : Calls Try.prog 88 #[.pointer p] (w.alloc (.cells #[.int .i64 1, .slice none 0 0, .bool false, .int .i64 0, .int .i64 0] 85)) fun e w' => e = .returned (.bool false) ∧ (w.alloc (.cells #[.int .i64 1, .slice none 0 0, .bool false, .int .i64 0, .int .i64 0] 85)) = w' := by
    rcases hp with rfl | ⟨xb, rfl, hc⟩
    · exact idx_made_nil _
    · exact idx_made xb 0 false _ (cell_keep b1 hc) (by decide)
  clear b1 n1
  go_enter Try.func43, Try.ntmps43
  go_wp2_with fail
  refine MD.mono ?_
  rintro e w' ⟨rfl, rfl⟩
  clear MD
  obtain ⟨q, hq⟩ : ∃ q, w.heap.size = q := ⟨_, rfl⟩
  have HQ := Lib.hid hq
  obtain ⟨w1, hw1⟩ : ∃ w1, w.alloc (.cells #[.int .i64 1, .slice none 0 0, .bool false, .int .i64 0, .int .i64 0] 85) = w1 := ⟨_, rfl⟩
  rw [hw1] at H1 B1
  rw [hw1]
  rw [hq] at H1 ⊢
  clear hw1 hq
  go_upto_if 11 with (fail)
  go_cut [3] (fun v wc => v = .pointer (some ⟨q, 0, none⟩) ∧ wc = w1)
  case first =>
    go_wp2_with fail
    go_meet
    exact ⟨rfl, rfl⟩
  case rest =>
    obtain ⟨rfl, rfl⟩ := hcut
    go_step
    refine bytes_rest q q 0 0 (idx0 1) none _ _ _ _ _ _ _ _ _ _ _ _ _ _ _ _ _ _ _ _ _ _ _ _ _ _ _ _ _ _ _ _ _ _ _ _ _ _ _ _ _ _ _ _ _ _ _ _ _ _ _ _ _ _ _ _ _ _ _ _ _ _ _ ?hp H1 (Lib.hid (idx0_ok (by decide) (by decide))) ?_
    case hp => exact fun c a d v w h => by cases d <;> exact h
    · intro wd v x4 x5 x7 x13 x14 x15 x16 x17 x18 x19 x20 x21 x22 x23 x24 x25 x26 x27 x28 x29 x30 x31 x32 x33 x34 x35 x36 x37 x38 x39 x40 x41 x42 x43 x44 x45 x46 x47 x48 x49 x50 x51 x52 x53 x54 x55 x56 x57 x58 x59 x60 x61 hv hb
      have V := Lib.hid hv
      have B := Lib.hid (below_trans B1.out hb)
      have BB1 := Lib.hid B1.out.size
      clear hv hb
      go_ret
      rw [← HQ.out]
      exact ⟨_, rfl, rows_base V.out BB1.out, B.out⟩
end Go.Proofs.Ytmkljmljbbijeaa

/-! The document's index as bytes: Bytes walked. -/
namespace Go.Proofs.Ytmkljmljbbijeaa
open Go.RowKit

theorem ref_varint_to (x n : Int) (w : World) (hx : x = bv (BitVec.ofInt 64 n)) :
    Calls Try.prog 59 #[.int .u64 x] w fun e w' => ∃ v, e = .returned v ∧ OwnB w' w.heap.size v (numL n) ∧ Below w.heap.size w w' := by
  subst hx; exact ref_varint _ w
structure RByR (yb g k q : Nat) (v : Value) (e a : EntV) (w : World) : Prop where
  x1 : w.cell? ⟨yb, 1, none⟩ = some v
  d0 : w.cell? ⟨g, k * 2, none⟩ = some (.int .i64 e.lsn)
  d1 : w.cell? ⟨g, k * 2 + 1, none⟩ = some (.int .i64 e.off)
  s0 : w.cell? ⟨q, 0, none⟩ = some (.int .i64 a.lsn)
  s1 : w.cell? ⟨q, 1, none⟩ = some (.int .i64 a.off)
theorem RByR.below {yb g k q : Nat} {v : Value} {e a : EntV} {w w' : World} (h : RByR yb g k q v e a w) (hb : Below w.heap.size w w') : RByR yb g k q v e a w' := ⟨cell_keep hb h.x1, cell_keep hb h.d0, cell_keep hb h.d1, cell_keep hb h.s0, cell_keep hb h.s1⟩
theorem rby_of {w : World} {base yb g k q n ca : Nat} {X : IdxV} {e a : EntV} (h : RefAt w base yb X (some ⟨g, 0, none⟩) n ca) (hk : k < X.l.length) (he : nthE X.l k = e) (hq : w.heap[q]? = some (.cells #[.int .i64 a.lsn, .int .i64 a.off] 64 (0, 0))) : RByR yb g k q (.slice (some ⟨g, 0, none⟩) n ca) e a w := by
  obtain ⟨g', e', -, hc, -⟩ := (HeldE.of_own h.own).get hk
  injection e' with e'
  injection e' with e'
  subst e' he
  exact ⟨cell_of_row _ _ 1 _ _ _ h.row, hc.c0, hc.c1, cell_of_row _ _ 0 _ _ _ hq, cell_of_row _ _ 1 _ _ _ hq⟩

set_option maxRecDepth 100000 in
set_option maxHeartbeats 8000000 in
theorem ref_bytes (base yb n ca : Nat) (X : IdxV) (ao : Option Addr) (w : World) (H : Hid (RefAt w base yb X ao n ca)) (ok : Hid (IdxOk X)) :
    Calls Try.prog 49 #[.pointer (some ⟨yb, 0, none⟩)] w fun e w' => ∃ v, e = .returned v ∧ OwnB w' w.heap.size v (idxB X) ∧ Below w.heap.size w w' := by
  have HN := Lib.hid H.out.len.1
  have n64 : (n : Int) ≤ 2147483648 := by have := ok.out.len; have := HN.out; omega
  have x0 := cell_of_row _ _ 0 _ _ _ H.out.row
  have u1 := u64_of X.step
  have u2 : IntKind.u64.wrap (n : Int) = bv (BitVec.ofInt 64 (n : Int)) := u64_of _
  go_enter Try.func49, Try.ntmps49
  go_wp2_with fail
  refine (ref_varint_to _ X.step w (by first | rfl | exact u64_of _)).mono ?_
  rintro x w1 ⟨v1, rfl, ho1, hb1⟩
  have B1 := Lib.hid hb1
  have O1 := Lib.hid ho1
  have x1 := cell_of_row _ _ 1 _ _ _ (H.out.keep hb1).row
  clear ho1 hb1 x0
  go_wp2_with fail
  refine (ref_varint_to _ (n : Int) w1 (by first | rfl | exact u64_of _)).mono ?_
  rintro x w2 ⟨v2, rfl, ho2, hb2⟩
  obtain ⟨a2, c2, rfl, x2, n2, -, -, -⟩ := ho2.slice
  have B2 := Lib.hid (below_trans B1.out hb2)
  have O2 := Lib.hid (O1.out.keep hb2)
  have X2 := Lib.hid x2
  have N2 := Lib.hid n2
  have V1 := Lib.hid (numL_len X.step)
  have V2 := Lib.hid (numL_len (n : Int))
  clear ho2 hb2 x2 n2 x1 u1 u2
  go_wp2_with (refine wpList_append_bytes (o := ⟨some 20, _, _, _, _, _⟩) rfl _ _ rfl w.heap.size v1 _ rfl O2.out a2 _ c2 (numL (n : Int)) rfl rfl X2.out N2.out (by have := V1.out; have := V2.out; omega) B2.out.size ?_)
  intro v3 w4 ho3 hg3 hi3
  have B3 := Lib.hid (grown_low B2.out O2.out hg3)
  have O3 := Lib.hid (show OwnB w4 w.heap.size v3 (preI X ++ entsB ⟨0, 0⟩ (X.l.take 0)) from by
    have e : preI X ++ entsB ⟨0, 0⟩ (X.l.take 0) = numL X.step ++ numL (n : Int) := by
      unfold preI
      rw [HN.out, List.take_zero, entsB, List.append_nil]
    rw [e]; exact ho3)
  have b4 := below_alloc w4 (.cells #[.int .i64 0, .int .i64 0] 64)
  have n4 := heap_alloc_new w4 (.cells #[.int .i64 0, .int .i64 0] 64)
  have Y4 := Lib.hid (show ByI w w4.heap.size X v3 0 (w4.alloc (.cells #[.int .i64 0, .int .i64 0] 64)) from ⟨n4, O3.out.keep b4, below_trans B3.out b4, B3.out.size⟩)
  clear b4 n4 ho3 hg3 hi3
  go_wp2_with fail
  go_loopw [3, 5] (fun v i wr => ∃ (k : Nat) (v' : Value), k ≤ n ∧ v = v' ∧ i = .int .i64 k ∧ Hid (ByI w w4.heap.size X v' k wr)) (fun _ i _ => n - (intOf i).toNat)
  case atStart => exact ⟨0, v3, by omega, rfl, rfl, Y4⟩
  case round =>
    clear Y4
    obtain ⟨k, vv, hk, rfl, rfl, Y⟩ := hrel
    have x1 := cell_of_row _ _ 1 _ _ _ (H.out.keep Y.out.low).row
    by_cases hlt : k < n
    · obtain ⟨g, rfl, -, -, -⟩ := (HeldE.of_own (H.out.keep Y.out.low).own).get (i := k) (by have := HN.out; omega)
      have PV := ok.out.prev (k := k) (by have := HN.out; omega)
      have PE := ok.out.ent k (by have := HN.out; omega)
      have LS := ok.out.lsn
      have LO := ok.out.off
      have HT := Lib.hid (entsB_take (L := X.l) (k := k) (by have := HN.out; omega))
      obtain ⟨S0, hS0⟩ : ∃ S0, preI X ++ entsB ⟨0, 0⟩ (X.l.take k) = S0 := ⟨_, rfl⟩
      have L0 := Lib.hid (show S0.length ≤ 42949673000 from by
        have h1 := entsB_len ⟨0, 0⟩ (X.l.take k)
        have h2 := preI_len X
        have h3 := ok.out.len
        have h4 : (X.l.take k).length ≤ k := by rw [List.length_take]; omega
        rw [← hS0, List.length_append]
        have := HN.out
        omega)
      have HS0 := Lib.hid hS0
      obtain ⟨e, he⟩ : ∃ e, nthE X.l k = e := ⟨_, rfl⟩
      obtain ⟨a, ha⟩ : ∃ a, prevE X.l k = a := ⟨_, rfl⟩
      rw [he] at PV PE
      rw [ha] at PV
      have HE := Lib.hid he
      have HA := Lib.hid ha
      have hbx := Y.out.box
      rw [ha] at hbx
      have XB := Lib.hid hbx
      have OB := Lib.hid (show OwnB wr w.heap.size _ S0 from hS0 ▸ Y.out.own)
      have BB := Lib.hid Y.out.low
      have HH := Lib.hid Y.out.high
      have z1 : IntKind.i64.wrap (e.lsn - a.lsn) = e.lsn - a.lsn := IntWalk.i64_in _ (by omega)
      have z2 : IntKind.i64.wrap (e.off - a.off) = e.off - a.off := IntWalk.i64_in _ (by omega)
      have z3 := u64_of (e.lsn - a.lsn)
      have z4 := u64_of (e.off - a.off)
      have kz : (k : Int) < (n : Int) := by omega
      clear hbx he ha PV PE LS LO hS0 Y
      have q0 : ∀ p : In (RByR yb g k w4.heap.size (.slice (some ⟨g, 0, none⟩) n ca) e a), p.w.cell? ⟨yb, 1, none⟩ = some (.slice (some ⟨g, 0, none⟩) n ca) := fun p => p.h.x1
      have q1 : ∀ p : In (RByR yb g k w4.heap.size (.slice (some ⟨g, 0, none⟩) n ca) e a), p.w.cell? ⟨g, k * 2, none⟩ = some (.int .i64 e.lsn) := fun p => p.h.d0
      have q2 : ∀ p : In (RByR yb g k w4.heap.size (.slice (some ⟨g, 0, none⟩) n ca) e a), p.w.cell? ⟨g, k * 2 + 1, none⟩ = some (.int .i64 e.off) := fun p => p.h.d1
      have q3 : ∀ p : In (RByR yb g k w4.heap.size (.slice (some ⟨g, 0, none⟩) n ca) e a), p.w.cell? ⟨w4.heap.size, 0, none⟩ = some (.int .i64 a.lsn) := fun p => p.h.s0
      have q4 : ∀ p : In (RByR yb g k w4.heap.size (.slice (some ⟨g, 0, none⟩) n ca) e a), p.w.cell? ⟨w4.heap.size, 1, none⟩ = some (.int .i64 a.off) := fun p => p.h.s1
      go_wp2_with fail
      refine wp_region_mixed [0, 1, 2, 3, 4, 5, 6, 7, 8, 9, 10, 11, 12, 13, 14, 15] (RByR yb g k w4.heap.size (.slice (some ⟨g, 0, none⟩) n ca) e a) (by kernel_rfl) (by kernel_rfl) (by intro c a d v w h; cases d <;> exact h) ((rby_of (H.out.keep BB.out) (by have := HN.out; omega) HE.out XB.out).below (below_drew _)) ?_
      intro hne
      simp only [pick, List.map_cons, List.map_nil, List.getD_cons_zero, List.getD_cons_succ]
      refine wpMix_reads 13 _ (by kernel_rfl) ?_
      simp only [List.take_succ_cons, List.take_zero, List.drop_succ_cons, List.drop_zero]
      repeat (go_big_quiet_step (fail))
      refine wpQuiet_nil ?_
      refine wpMix_act rfl ?_ rfl
      go_wp2_with fail
      refine (ref_varint_to _ (e.lsn - a.lsn) wr.drew (by first | rfl | exact u64_of _)).mono ?_
      rintro x w5 ⟨v5, rfl, ho5, hb5⟩
      obtain ⟨a5, c5, rfl, x5, m5, -, -, -⟩ := ho5.slice
      have bq := below_trans (below_drew wr) hb5
      have B5 := Lib.hid (below_trans BB.out bq)
      have O5 := Lib.hid (OB.out.keep bq)
      have E5 := Lib.hid ((bq.block _ (heap_lt XB.out)).trans XB.out)
      have X5 := Lib.hid x5
      have N5 := Lib.hid m5
      have V5 := Lib.hid (numL_len (e.lsn - a.lsn))
      clear ho5 hb5 x5 m5 bq
      go_wp2_with fail
      refine ⟨⟨⟨_, rby_of (H.out.keep B5.out) (by have := HN.out; omega) HE.out E5.out⟩, rfl⟩, ?_⟩
      refine wpMix_act rfl ?_ rfl
      go_wp2_with (refine wpList_append_bytes (o := ⟨some 45, _, _, _, _, _⟩) rfl _ _ rfl w.heap.size _ _ rfl O5.out a5 _ c5 (numL (e.lsn - a.lsn)) rfl rfl X5.out N5.out (by have := V5.out; have := L0.out; omega) B5.out.size ?_)
      intro v6 w6 ho6 hg6 hi6
      have B6 := Lib.hid (grown_low B5.out O5.out hg6)
      have E6 := Lib.hid ((hg6.block _ (heap_lt E5.out) (fun x => ownB_ne O5.out E5.out x.symm)).trans E5.out)
      have O6 := Lib.hid (show OwnB w6 w.heap.size v6 (S0 ++ numL (e.lsn - a.lsn)) from ho6)
      clear ho6 hg6 hi6 B5 O5 E5 X5 N5
      go_wp2_with fail
      refine ⟨⟨⟨_, rby_of (H.out.keep B6.out) (by have := HN.out; omega) HE.out E6.out⟩, rfl⟩, ?_⟩
      refine wpMix_reads 1 _ (by kernel_rfl) ?_
      simp only [List.take_succ_cons, List.take_zero, List.drop_succ_cons, List.drop_zero]
      repeat (go_big_quiet_step (fail))
      refine wpQuiet_nil ?_
      refine wpMix_nil ?_
      clear hne
      obtain ⟨S1, hS1⟩ : ∃ S1, S0 ++ numL (e.lsn - a.lsn) = S1 := ⟨_, rfl⟩
      have HS1 := Lib.hid hS1
      rw [hS1] at O6
      have L0 := Lib.hid (show S1.length ≤ 42949673100 from by have := L0.out; have := V5.out; rw [← hS1, List.length_append]; omega)
      have B7 := B6
      have O7 := O6
      have E7 := E6
      clear hS1 V5 B6 O6 E6 x1 z1 z3
      go_wp2_with fail
      refine wp_region_mixed [0, 1, 2, 3, 4, 5, 6, 7, 8, 9, 10, 11, 12, 13, 14, 15] (RByR yb g k w4.heap.size (.slice (some ⟨g, 0, none⟩) n ca) e a) (by kernel_rfl) (by kernel_rfl) (by intro c a d v w h; cases d <;> exact h) ((rby_of (H.out.keep B7.out) (by have := HN.out; omega) HE.out E7.out).below (below_drew _)) ?_
      intro hne
      simp only [pick, List.map_cons, List.map_nil, List.getD_cons_zero, List.getD_cons_succ]
      refine wpMix_reads 13 _ (by kernel_rfl) ?_
      simp only [List.take_succ_cons, List.take_zero, List.drop_succ_cons, List.drop_zero]
      repeat (go_big_quiet_step (fail))
      refine wpQuiet_nil ?_
      refine wpMix_act rfl ?_ rfl
      go_wp2_with fail
      refine (ref_varint_to _ (e.off - a.off) w6.drew (by first | rfl | exact u64_of _)).mono ?_
      rintro x w8 ⟨v5, rfl, ho5, hb5⟩
      obtain ⟨a5, c5, rfl, x5, m5, -, -, -⟩ := ho5.slice
      have bq := below_trans (below_drew w6) hb5
      have B5 := Lib.hid (below_trans B7.out bq)
      have O5 := Lib.hid (O7.out.keep bq)
      have E5 := Lib.hid ((bq.block _ (heap_lt E7.out)).trans E7.out)
      have X5 := Lib.hid x5
      have N5 := Lib.hid m5
      have V5 := Lib.hid (numL_len (e.off - a.off))
      clear ho5 hb5 x5 m5 bq
      go_wp2_with fail
      refine ⟨⟨⟨_, rby_of (H.out.keep B5.out) (by have := HN.out; omega) HE.out E5.out⟩, rfl⟩, ?_⟩
      refine wpMix_act rfl ?_ rfl
      go_wp2_with (refine wpList_append_bytes (o := ⟨some 60, _, _, _, _, _⟩) rfl _ _ rfl w.heap.size _ _ rfl O5.out a5 _ c5 (numL (e.off - a.off)) rfl rfl X5.out N5.out (by have := V5.out; have := L0.out; omega) B5.out.size ?_)
      intro v6 w9 ho6 hg6 hi6
      have B6 := Lib.hid (grown_low B5.out O5.out hg6)
      have E6 := Lib.hid ((hg6.block _ (heap_lt E5.out) (fun x => ownB_ne O5.out E5.out x.symm)).trans E5.out)
      have O6 := Lib.hid (show OwnB w9 w.heap.size v6 (S1 ++ numL (e.off - a.off)) from ho6)
      clear ho6 hg6 hi6 B5 O5 E5 X5 N5
      go_wp2_with fail
      refine ⟨⟨⟨_, rby_of (H.out.keep B6.out) (by have := HN.out; omega) HE.out E6.out⟩, rfl⟩, ?_⟩
      refine wpMix_reads 1 _ (by kernel_rfl) ?_
      simp only [List.take_succ_cons, List.take_zero, List.drop_succ_cons, List.drop_zero]
      repeat (go_big_quiet_step (fail))
      refine wpQuiet_nil ?_
      refine wpMix_nil ?_
      clear hne
      clear q0 q1 q2 q3 q4 z2 z4
      have R9 := rby_of (H.out.keep B6.out) (by have := HN.out; omega) HE.out E6.out
      have r0 := R9.x1
      have r1 := R9.d0
      have r2 := R9.d1
      have r3 := R9.s0
      have r4 := R9.s1
      have f0 := frozen_of_row _ _ 0 _ _ E6.out
      have f1 := frozen_of_row _ _ 1 _ _ E6.out
      have NX := Lib.hid (show ByI w w4.heap.size X v6 (k + 1) ((w9.setCell ⟨w4.heap.size, 0, none⟩ (.int .i64 e.lsn)).setCell ⟨w4.heap.size, 1, none⟩ (.int .i64 e.off)) from ⟨by
        rw [show prevE X.l (k + 1) = e from HE.out]
        exact put2 E6.out _ _, by
        rw [show preI X ++ entsB ⟨0, 0⟩ (X.l.take (k + 1)) = S1 ++ numL (e.off - a.off) from by rw [HT.out, HE.out, HA.out, ← List.append_assoc, HS0.out, ← HS1.out]; unfold entB; rw [List.append_assoc]]
        have ne : v6.ownBlock ≠ some w4.heap.size := ownB_ne O6.out E6.out
        exact rows_congr O6.out fun j hj => (far_set (fun x => ne (by rw [← x]; exact hj))).trans (far_set (fun x => ne (by rw [← x]; exact hj))), put2_below B6.out HH.out _ _, HH.out⟩)
      clear R9 V5
      go_wp2_with fail
      go_roundw
      case rel => exact ⟨k + 1, v6, by omega, rfl, by go_num, NX⟩
      case measure => simp [intOf]; omega
    · have hge : (n : Int) ≤ (k : Int) := by omega
      have hk2 : k = n := by omega
      have OX := Lib.hid (show OwnB wr w.heap.size _ (bareI X) from by
        have := Y.out.own
        rw [List.take_of_length_le (by have := HN.out; omega)] at this
        exact this)
      have LX := Lib.hid (show (bareI X).length ≤ 42949673000 from by
        have h1 := preI_len X
        have h2 := entsB_len ⟨0, 0⟩ X.l
        have h3 := ok.out.len
        unfold bareI
        rw [List.length_append]; omega)
      have LW := Lib.hid Y.out.low
      obtain ⟨BB, hBB⟩ : ∃ BB, bareI X = BB := ⟨_, rfl⟩
      have HBB := Lib.hid (show idxB X = BB ++ fixedL ((Crc.sum BB).setWidth 64) 4 from by unfold idxB; rw [hBB])
      rw [hBB] at OX LX
      have m2 := wrap_u64_bv (Crc.sum BB)
      clear hBB hk2 Y
      go_wp2_with fail
      refine (ref_sum_to _ w.heap.size BB wr OX.out (by have := LX.out; omega)).mono ?_
      rintro x y0 ⟨rfl, rfl⟩
      go_wp2_with fail
      refine (ref_fix4 _ (Crc.sum BB) wr (by first | rfl | exact (wrap_u64_bv (Crc.sum BB)))).mono ?_
      rintro x y1 ⟨af, ys, cf, rfl, hys, hya, hyn, hby⟩
      have BY := Lib.hid (below_trans LW.out hby)
      have OY := Lib.hid (OX.out.keep hby)
      have EY := Lib.hid hys
      have AY := Lib.hid hya
      have NY := Lib.hid hyn
      have LY := Lib.hid (show ys.length = 4 by rw [hys, fixedL_len])
      clear hys hya hyn hby x1
      go_wp2_with (refine wpList_append_bytes (o := ⟨some 73, _, _, _, _, _⟩) rfl _ _ rfl w.heap.size _ BB rfl OY.out af _ cf ys rfl rfl AY.out NY.out (by have := LY.out; have := LX.out; omega) BY.out.size ?_)
      intro v8 w8 ho8 hg8 hi8
      have B8 := Lib.hid (grown_low BY.out OY.out hg8)
      have O8 := Lib.hid (show OwnB w8 w.heap.size v8 (idxB X) from by rw [HBB.out, ← EY.out]; exact ho8)
      clear ho8 hg8 hi8 m2
      go_wp2_with fail
      go_ret
      exact ⟨_, rfl, O8.out, B8.out⟩
end Go.Proofs.Ytmkljmljbbijeaa

/-! What loading an index answers, in plain words; index's field and entry walked. -/
namespace Go.Proofs.Ytmkljmljbbijeaa
open Go.RowKit

def mostL (a : EntV) : BitVec 64 := BitVec.ofInt 64 (9223372036854775807 - a.lsn)
def mostO (a : EntV) : BitVec 64 := BitVec.ofInt 64 (2147483647 - a.off)
def leastE (st : Int) (told : Bool) : Int := if told = true then st else 0
/-- An entry is read. -/
def entR (st : Int) (told : Bool) (a : EntV) (s : RS) : EntV × RS × Nat :=
  let x := stp (mostL a) s
  if x.2.2 ≠ 0 then (⟨0, 0⟩, x.2, nm x.2.2) else if x.1 = 0#64 then (⟨0, 0⟩, x.2, 4) else
  let y := stp (mostO a) x.2
  if y.2.2 ≠ 0 then (⟨0, 0⟩, y.2, nm y.2.2) else if bv y.1 < leastE st told then (⟨0, 0⟩, y.2, 4) else
  (⟨a.lsn + bv x.1, a.off + bv y.1⟩, y.2, 0)
def pushV (X : IdxV) (e : EntV) : IdxV := ⟨X.step, X.l ++ [e], true, e⟩
/-- Entries are read, till one is amiss. -/
def entsR : Nat → IdxV → RS → IdxV × RS × Nat
  | 0, X, s => (X, s, 0)
  | n + 1, X, s => let r := entR X.step X.told X.last s
    if r.2.2 = 0 then entsR n (pushV X r.1) r.2.1 else (X, r.2.1, r.2.2)
def mostS : BitVec 64 := 1048576#64
def mostN : BitVec 64 := 18446744073709551615#64
def bodyI (P : List (BitVec 8)) : IdxV × Nat :=
  let a := stp mostS (P, 0)
  if a.2.2 ≠ 0 then (idx0 0, nm a.2.2) else if a.1 = 0#64 then (idx0 0, 4) else
  let b := stp mostN a.2
  if b.2.2 ≠ 0 then (idx0 0, nm b.2.2) else
  let r := entsR b.1.toNat (idx0 (bv a.1)) b.2
  if r.2.2 ≠ 0 then (idx0 0, r.2.2) else if r.2.1.1 ≠ [] then (idx0 0, 4) else (r.1, 0)
/-- What loading answers. -/
def idxR (bs : List (BitVec 8)) : IdxV × Nat :=
  if bs.length < 4 then (idx0 0, 2)
  else if (leB ((bs.drop (bs.length - 4)))).setWidth 32 ≠ Crc.sum (bs.take (bs.length - 4)) then (idx0 0, 5)
  else bodyI (bs.take (bs.length - 4))

theorem stp_le {most : BitVec 64} {s : RS} {v : BitVec 64} {t : RS} (h : stp most s = (v, t)) (ht : t.2 = 0) : bv v ≤ bv most := by
  unfold stp at h
  split at h
  · split at h
    · split at h
      · rename_i hm
        injection h with h1 _
        rw [← h1]; exact hm
      · injection h with _ h1; rw [← h1] at ht; cases ht
    · injection h with h0 h1; rw [← h0]; simp [bv]
  · injection h with h0 h1; rw [← h0]; simp [bv]
theorem bv_ofI64 {n : Int} (h : 0 ≤ n) (h2 : n ≤ 9223372036854775807) : bv (BitVec.ofInt 64 n) = n := by
  have := u64_of n
  rw [IntWalk.u64_in n ⟨h, by omega⟩] at this
  exact this.symm
theorem IdxOk.push {X : IdxV} (h : IdxOk X) {x y : Int} (h1 : 1 ≤ x) (h2 : x ≤ 9223372036854775807 - X.last.lsn) (h3 : leastE X.step X.told ≤ y) (h0 : 0 ≤ y) (h4 : y ≤ 2147483647 - X.last.off) (hl : X.told = true → lastE X.l = X.last) : IdxOk (pushV X ⟨X.last.lsn + x, X.last.off + y⟩) := by
  have hA := h.lsn
  have hB := h.off
  refine ⟨h.step, ⟨fun _ => (by simp [pushV]), fun _ => rfl⟩, fun e => (by cases e), fun _ => (by show 1 ≤ X.last.lsn + x; omega), (by show 0 ≤ X.last.lsn + x ∧ X.last.lsn + x ≤ _; omega), (by show 0 ≤ X.last.off + y ∧ X.last.off + y ≤ _; omega), fun i hi => ?_, fun i hi => ?_⟩
  · have hi' : i < X.l.length + 1 := by simpa [pushV] using hi
    show 1 ≤ (nthE (X.l ++ [_]) i).lsn ∧ (nthE (X.l ++ [_]) i).lsn ≤ X.last.lsn + x ∧ 0 ≤ (nthE (X.l ++ [_]) i).off ∧ (nthE (X.l ++ [_]) i).off ≤ X.last.off + y
    rcases Nat.lt_or_ge i X.l.length with e | e
    · rw [nthE_left e]
      have := h.ent i e
      omega
    · obtain rfl : i = X.l.length := by omega
      rw [nthE_last]
      dsimp only
      omega
  · have hi' : i + 1 < X.l.length + 1 := by simpa [pushV] using hi
    show (nthE (X.l ++ [_]) i).lsn < (nthE (X.l ++ [_]) (i + 1)).lsn ∧ (nthE (X.l ++ [_]) i).off + X.step ≤ (nthE (X.l ++ [_]) (i + 1)).off
    rcases Nat.lt_or_ge (i + 1) X.l.length with e | e
    · rw [nthE_left e, nthE_left (by omega)]
      exact h.rise i e
    · have hl2 : X.l.length = i + 1 := by omega
      have ht : X.told = true := h.told.2 (by omega)
      have e1 : nthE (X.l ++ [(⟨X.last.lsn + x, X.last.off + y⟩ : EntV)]) (i + 1) = ⟨X.last.lsn + x, X.last.off + y⟩ := by
        have := nthE_last X.l ⟨X.last.lsn + x, X.last.off + y⟩
        rw [hl2] at this
        exact this
      have e2 : nthE X.l i = X.last := by
        have := hl ht
        unfold lastE at this
        rw [hl2, Nat.add_sub_cancel] at this
        exact this
      rw [e1, nthE_left (by omega), e2]
      unfold leastE at h3
      rw [if_pos ht] at h3
      dsimp only
      omega
/-- What holds of an index that is being read. -/
structure RdOk (X : IdxV) : Prop where
  ok : IdxOk X
  last : X.told = true → lastE X.l = X.last
theorem entR_ok {X : IdxV} (h : RdOk X) {s : RS} {e : EntV} {t : RS} (hr : entR X.step X.told X.last s = (e, t, 0)) (hz : ∀ b, b ≠ 0 → nm b ≠ 0) : RdOk (pushV X e) := by
  have hA := h.ok.lsn
  have hB := h.ok.off
  unfold entR at hr
  obtain ⟨x, t1, hx⟩ : ∃ x t1, stp (mostL X.last) s = (x, t1) := ⟨_, _, rfl⟩
  simp only [hx] at hr
  split at hr
  · rename_i hb
    injection hr with _ hr; injection hr with _ hr
    exact absurd hr (hz _ hb)
  · rename_i hb
    split at hr
    · injection hr with _ hr; injection hr with _ hr; cases hr
    · rename_i hx0
      obtain ⟨y, t2, hy⟩ : ∃ y t2, stp (mostO X.last) t1 = (y, t2) := ⟨_, _, rfl⟩
      simp only [hy] at hr
      split at hr
      · rename_i hb2
        injection hr with _ hr; injection hr with _ hr
        exact absurd hr (hz _ hb2)
      · rename_i hb2
        split at hr
        · injection hr with _ hr; injection hr with _ hr; cases hr
        · rename_i hl
          injection hr with he _
          subst he
          have hx1 : 1 ≤ bv x := by
            have := bv_nonneg x
            have h0 : bv x ≠ 0 := fun e => hx0 (by
              unfold bv at e
              exact BitVec.eq_of_toNat_eq (by simpa using e))
            omega
          have hx2 := stp_le hx (by simpa using hb)
          have hy2 := stp_le hy (by simpa using hb2)
          unfold mostL at hx2
          unfold mostO at hy2
          rw [bv_ofI64 (by omega) (by omega)] at hx2 hy2
          refine ⟨h.ok.push hx1 hx2 (by omega) (bv_nonneg y) hy2 h.last, fun _ => ?_⟩
          unfold lastE pushV
          dsimp only
          rw [List.length_append, List.length_singleton, Nat.add_sub_cancel, nthE_last]
theorem nm_ne {b : Nat} (h : b ≠ 0) : nm b ≠ 0 := fun e => h (nm_zero.1 e)

set_option maxRecDepth 100000 in
theorem rd_field (b : Nat) (P : List (BitVec 8)) (k : Nat) (most : BitVec 64) (w : World) (hR : RdAt w b P k 0) (hm : P.length ≤ 140737488355328) (v : BitVec 64) (k' bad' : Nat) (H : VarH P k 0 most v k' bad') :
    Calls Try.prog 109 #[.pointer (some ⟨b, 0, none⟩), .int .u64 (bv most)] w fun x w' => x = .returned (.tuple #[.int .u64 (bv v), .int .i64 (nm bad' : Nat)]) ∧ RNow w w' b P k' bad' := by
  have HR := Lib.hid hR
  have HH := Lib.hid H
  have HM := Lib.hid hm
  obtain ⟨nb, hnb⟩ : ∃ nb, nm bad' = nb := ⟨_, rfl⟩
  rw [hnb]
  have HNB := Lib.hid hnb
  clear hR H hm hnb
  go_enter Try.func109, Try.ntmps109
  go_wp2_with fail
  refine (rd_varint b P k 0 most w HR.out HM.out v k' bad' HH.out).mono ?_
  rintro e w1 ⟨rfl, hN⟩
  have HN := Lib.hid hN
  clear hN
  go_wp2_with fail
  refine (reader_err b P k' bad' w1 HN.out.at').mono ?_
  rintro e w2 ⟨rfl, n, rfl⟩
  have N2 := Lib.hid (show RNow w (w1.drewN n) b P k' bad' from ⟨HN.out.at'.on (below_drewN _ _), HN.out.but.of_below (below_drewN _ _)⟩)
  obtain ⟨z, hz⟩ : ∃ z : Int, (if bad' = 0 then (0 : Int) else (k' : Int)) = z := ⟨_, rfl⟩
  rw [hz]
  clear hz
  by_cases h3 : bad' = 3
  · have t1 : ((bad' : Int) == 3) = true := by simp; omega
    obtain rfl : 4 = nb := by rw [← HNB.out]; unfold nm; rw [if_pos h3]
    clear h3
    go_wp2_with fail
    go_ret2
    exact ⟨rfl, N2.out⟩
  · have t1 : ((bad' : Int) == 3) = false := by simp; omega
    obtain rfl : bad' = nb := by rw [← HNB.out]; unfold nm; rw [if_neg h3]
    clear h3
    go_wp2_with fail
    go_ret2
    exact ⟨rfl, N2.out⟩
end Go.Proofs.Ytmkljmljbbijeaa

/-! index's entry walked. -/
namespace Go.Proofs.Ytmkljmljbbijeaa
open Go.RowKit

theorem rd_put2 {w : World} {b k bad q : Nat} {P : List (BitVec 8)} {x y : Int} {t : TypeId} (h : RdAt w b P k bad) (hq : q ≠ b) (hr : w.heap[q]? = some (.cells #[.int .i64 x, .int .i64 y] t (0, 0))) (u v : Value) : RdAt ((w.setCell ⟨q, 0, none⟩ u).setCell ⟨q, 1, none⟩ v) b P k bad :=
  h.off hq ⟨x, cell_of_row _ _ 0 _ _ _ hr⟩ fun _ _ hz => (far_set hz).trans (far_set hz)
theorem rnow_put {w w1 : World} {b k bad q : Nat} {P : List (BitVec 8)} {x y : Int} {t : TypeId} (h : RNow w w1 b P k bad) (hq : b < w.heap.size ∧ w.heap.size ≤ q) (hr : w1.heap[q]? = some (.cells #[.int .i64 x, .int .i64 y] t (0, 0))) (u v : Value) : RNow w ((w1.setCell ⟨q, 0, none⟩ u).setCell ⟨q, 1, none⟩ v) b P k bad :=
  ⟨rd_put2 h.at' (by omega) hr u v, (h.but.setNew _ hq.2 _).setNew _ hq.2 _⟩
theorem RNow.trans {w w1 w2 : World} {b k bad k' bad' : Nat} {P : List (BitVec 8)} (h : RNow w w1 b P k bad) (h2 : RNow w1 w2 b P k' bad') : RNow w w2 b P k' bad' := ⟨h2.at', h.but.trans h2.but⟩
theorem entR_of (st : Int) (told : Bool) (a : EntV) {P : List (BitVec 8)} {k k1 e1 : Nat} {v1 : BitVec 64} (h1 : VarH P k 0 (mostL a) v1 k1 e1) :
    (e1 ≠ 0 → entR st told a (P.drop k, 0) = (⟨0, 0⟩, (P.drop k1, e1), nm e1)) ∧ (e1 = 0 → v1 = 0#64 → entR st told a (P.drop k, 0) = (⟨0, 0⟩, (P.drop k1, 0), 4)) ∧
    (e1 = 0 → v1 ≠ 0#64 → ∀ {v2 : BitVec 64} {k2 e2 : Nat}, VarH P k1 0 (mostO a) v2 k2 e2 → (e2 ≠ 0 → entR st told a (P.drop k, 0) = (⟨0, 0⟩, (P.drop k2, e2), nm e2)) ∧ (e2 = 0 → bv v2 < leastE st told → entR st told a (P.drop k, 0) = (⟨0, 0⟩, (P.drop k2, 0), 4)) ∧ (e2 = 0 → ¬ bv v2 < leastE st told → entR st told a (P.drop k, 0) = (⟨a.lsn + bv v1, a.off + bv v2⟩, (P.drop k2, 0), 0))) := by
  have s1 := varH_stp h1
  refine ⟨fun he => ?_, fun he hv => ?_, fun he hv v2 k2 e2 h2 => ?_⟩
  · unfold entR; simp only [s1]; rw [if_pos he]
  · subst he; unfold entR; simp only [s1]; rw [if_neg (by simp), if_pos hv]
  · subst he
    have s2 := varH_stp h2
    refine ⟨fun he => ?_, fun he hl => ?_, fun he hl => ?_⟩
    · unfold entR; simp only [s1]; rw [if_neg (by simp), if_neg hv]; simp only [s2]; rw [if_pos he]
    · subst he; unfold entR; simp only [s1]; rw [if_neg (by simp), if_neg hv]; simp only [s2]; rw [if_neg (by simp), if_pos hl]
    · subst he; unfold entR; simp only [s1]; rw [if_neg (by simp), if_neg hv]; simp only [s2]; rw [if_neg (by simp), if_neg hl]
theorem bv_zero {v : BitVec 64} : v = 0#64 ↔ bv v = 0 := ⟨fun e => (by rw [e]; rfl), fun e => (by unfold bv at e; exact BitVec.eq_of_toNat_eq (by simpa using e))⟩
structure EntA (ll lo st : Int) : Prop where
  l0 : 0 ≤ ll
  l1 : ll ≤ 9223372036854775807
  o0 : 0 ≤ lo
  o1 : lo ≤ 2147483647
  s0 : 1 ≤ st
  s1 : st ≤ 1048576

set_option maxRecDepth 100000 in
set_option maxHeartbeats 8000000 in
theorem entry_rest (b q p k : Nat) (P : List (BitVec 8)) (st ll lo : Int) (told : Bool) (w0 w : World) (Q : Exit → Act → World → Prop)
    (u0 u2 u3 u5 u8 u9 u10 u11 u12 u13 u14 u15 u16 u17 u18 u19 u20 u21 u22 u23 u24 u25 u26 u27 u28 u29 u30 u31 u32 u33 u34 u35 u36 u37 u38 u39 u40 u41 u42 u43 u44 u45 u46 u47 u48 u49 u50 u51 u52 u53 u54 u55 u56 u57 u58 u59 u60 u61 u62 u63 u64 u65 u66 u67 : Value)
    (hm : P.length ≤ 140737488355328) (A : EntA ll lo st) (LQ : Hid (b < w0.heap.size ∧ w0.heap.size ≤ q)) (hp : q < p) (N : Hid (RNow w0 w b P k 0))
    (BQ : Hid (w.heap[q]? = some (.cells #[.int .i64 0, .int .i64 0] 64 (0, 0)))) (BP : Hid (w.heap[p]? = some (.cells #[.int .i64 ll, .int .i64 lo] 64 (0, 0))))
    (hQ : ∀ (wd : World) (en : EntV) (er k' bad' : Nat) (x8 x9 x10 x24 x25 x26 x27 x28 x29 x30 x31 x32 x33 x34 x35 x36 x37 x38 x39 x40 x41 x42 x43 x44 x45 x46 x47 x48 x49 x50 x51 x52 x53 x54 x55 x56 x57 x58 x59 x60 x61 x62 x63 x64 x65 x66 x67 : Value), entR st told ⟨ll, lo⟩ (P.drop k, 0) = (en, (P.drop k', bad'), er) → RNow w0 wd b P k' bad' → wd.heap[q]? = some (.cells #[.int .i64 en.lsn, .int .i64 en.off] 64 (0, 0)) → (er = 0 → bad' = 0) →
      Q .ret ⟨#[u0, .pointer (some ⟨b, 0, none⟩), u2, u3, .pointer (some ⟨q, 0, none⟩), .int .i64 (er : Nat), .pointer (some ⟨p, 0, none⟩), .int .u64 (leastE st told), x8, x9, x10, u11, u12, u13, u14, u15, u16, u17, u18, u19, u20, u21, u22, u23, x24, x25, x26, x27, x28, x29, x30, x31, x32, x33, x34, x35, x36, x37, x38, x39, x40, x41, x42, x43, x44, x45, x46, x47, x48, x49, x50, x51, x52, x53, x54, x55, x56, x57, x58, x59, x60, x61, x62, x63, x64, x65, x66, x67], []⟩ wd) :
    (fromOf Try.f110 4).wp Try.prog Q ⟨#[u0, .pointer (some ⟨b, 0, none⟩), u2, u3, .pointer (some ⟨q, 0, none⟩), u5, .pointer (some ⟨p, 0, none⟩), .int .u64 (leastE st told), u8, u9, u10, u11, u12, u13, u14, u15, u16, u17, u18, u19, u20, u21, u22, u23, u24, u25, u26, u27, u28, u29, u30, u31, u32, u33, u34, u35, u36, u37, u38, u39, u40, u41, u42, u43, u44, u45, u46, u47, u48, u49, u50, u51, u52, u53, u54, u55, u56, u57, u58, u59, u60, u61, u62, u63, u64, u65, u66, u67], []⟩ w := by
  obtain ⟨L, hL⟩ : ∃ L, leastE st told = L := ⟨_, rfl⟩
  rw [hL] at hQ ⊢
  have HQ := Lib.hid hQ
  have HM := Lib.hid hm
  have A0 := Lib.hid A
  obtain ⟨l0, l1, o0, o1, s0, s1⟩ := A
  have HL := Lib.hid hL
  have NE := Lib.hid (show b ≠ q ∧ b ≠ p from ⟨by have := LQ.out; omega, by have := LQ.out; omega⟩)
  have z1 : IntKind.i64.wrap (9223372036854775807 - ll) = 9223372036854775807 - ll := IntWalk.i64_in _ (by omega)
  have z2 := u64_of (9223372036854775807 - ll)
  have z3 : IntKind.i64.wrap (2147483647 - lo) = 2147483647 - lo := IntWalk.i64_in _ (by omega)
  have z4 := u64_of (2147483647 - lo)
  obtain ⟨v1, k1, e1, hv1⟩ := varH_some P k 0 (mostL ⟨ll, lo⟩)
  have V1 := Lib.hid hv1
  have c0 := cell_of_row _ _ 0 _ _ _ BP.out
  have R1 := Lib.hid (entR_of st told ⟨ll, lo⟩ hv1)
  clear hQ hm hL hv1 l0 o0
  conv => arg 2; whnf
  go_wp2_with fail
  refine (rd_field b P k (mostL ⟨ll, lo⟩) w N.out.at' HM.out v1 k1 e1 V1.out).mono ?_
  rintro x w1 ⟨rfl, hN⟩
  have N1 := Lib.hid (N.out.trans hN)
  have Q1 := Lib.hid ((hN.but.block q (heap_lt BQ.out) (by have := NE.out; omega)).trans BQ.out)
  have P1 := Lib.hid ((hN.but.block p (heap_lt BP.out) (by have := NE.out; omega)).trans BP.out)
  clear hN c0 z1 z2 BQ BP N
  have LQ2 := LQ.out
  by_cases he1 : e1 = 0
  · subst he1
    rw [show nm 0 = 0 from rfl]
    have hs1 := varH_stp V1.out
    have hle := stp_le hs1 rfl
    unfold mostL at hle
    rw [bv_ofI64 (by dsimp only; have := A0.out.l1; omega) (by dsimp only; have := A0.out.l0; omega)] at hle
    dsimp only at hle
    have y1 := i64_of_bv v1 (by have := A0.out.l0; omega)
    have y2 := bv_nonneg v1
    by_cases hz : bv v1 = 0
    · have t1 : (bv v1 == 0) = true := by simp [hz]
      have F := Lib.hid (R1.out.2.1 rfl (bv_zero.2 hz))
      clear hz hs1 hle y1 y2 z3 z4 R1
      try dsimp only
      have r0 := cell_of_row _ _ 0 _ _ _ Q1.out
      have r1 := cell_of_row _ _ 1 _ _ _ Q1.out
      have f0 := frozen_of_row _ _ 0 _ _ Q1.out
      have f1 := frozen_of_row _ _ 1 _ _ Q1.out
      go_wp2_with fail
      exact HQ.out _ ⟨0, 0⟩ 4 k1 0 _ _ _ _ _ _ _ _ _ _ _ _ _ _ _ _ _ _ _ _ _ _ _ _ _ _ _ _ _ _ _ _ _ _ _ _ _ _ _ _ _ _ _ _ _ _ _ F.out (rnow_put N1.out LQ.out Q1.out _ _) (put2 Q1.out _ _) (fun _ => rfl)
    · have t1 : (bv v1 == 0) = false := by simp [hz]
      have c1 := cell_of_row _ _ 1 _ _ _ P1.out
      obtain ⟨v2, k2, e2, hv2⟩ := varH_some P k1 0 (mostO ⟨ll, lo⟩)
      have V2 := Lib.hid hv2
      have R2 := Lib.hid (R1.out.2.2 rfl (fun e => hz (bv_zero.1 e)) hv2)
      have HLE := Lib.hid hle
      clear hz hs1 hle hv2 R1
      try dsimp only
      go_wp2_with fail
      refine (rd_field b P k1 (mostO ⟨ll, lo⟩) w1 N1.out.at' HM.out v2 k2 e2 V2.out).mono ?_
      rintro x w2 ⟨rfl, hN⟩
      have N2 := Lib.hid (N1.out.trans hN)
      have Q2 := Lib.hid ((hN.but.block q (heap_lt Q1.out) (by have := NE.out; omega)).trans Q1.out)
      have P2 := Lib.hid ((hN.but.block p (heap_lt P1.out) (by have := NE.out; omega)).trans P1.out)
      clear hN c1 z3 z4 t1
      by_cases he2 : e2 = 0
      · subst he2
        rw [show nm 0 = 0 from rfl]
        have hs2 := varH_stp V2.out
        have hle2 := stp_le hs2 rfl
        unfold mostO at hle2
        rw [bv_ofI64 (by dsimp only; have := A0.out.o1; omega) (by dsimp only; have := A0.out.o0; omega)] at hle2
        dsimp only at hle2
        have y3 := i64_of_bv v2 (by have := A0.out.o0; omega)
        have y4 := bv_nonneg v2
        by_cases hl : bv v2 < L
        · have t2 : decide (bv v2 < L) = true := decide_eq_true hl
          have F := Lib.hid (R2.out.2.1 rfl (by rw [HL.out]; exact hl))
          clear hl hs2 hle2 y1 y2 y3 y4
          try dsimp only
          have r0 := cell_of_row _ _ 0 _ _ _ Q2.out
          have r1 := cell_of_row _ _ 1 _ _ _ Q2.out
          have f0 := frozen_of_row _ _ 0 _ _ Q2.out
          have f1 := frozen_of_row _ _ 1 _ _ Q2.out
          go_wp2_with fail
          exact HQ.out _ ⟨0, 0⟩ 4 k2 0 _ _ _ _ _ _ _ _ _ _ _ _ _ _ _ _ _ _ _ _ _ _ _ _ _ _ _ _ _ _ _ _ _ _ _ _ _ _ _ _ _ _ _ _ _ _ _ F.out (rnow_put N2.out LQ.out Q2.out _ _) (put2 Q2.out _ _) (fun _ => rfl)
        · have t2 : decide (bv v2 < L) = false := decide_eq_false hl
          have F := Lib.hid (R2.out.2.2 rfl (by rw [HL.out]; omega))
          have y5 : IntKind.i64.wrap (ll + bv v1) = ll + bv v1 := IntWalk.i64_in _ (by have := HLE.out; have := A0.out.l0; omega)
          have y6 : IntKind.i64.wrap (lo + bv v2) = lo + bv v2 := IntWalk.i64_in _ (by have := A0.out.o0; omega)
          have p0 := cell_of_row _ _ 0 _ _ _ P2.out
          have p1 := cell_of_row _ _ 1 _ _ _ P2.out
          clear hl hs2 hle2
          try dsimp only
          have r0 := cell_of_row _ _ 0 _ _ _ Q2.out
          have r1 := cell_of_row _ _ 1 _ _ _ Q2.out
          have f0 := frozen_of_row _ _ 0 _ _ Q2.out
          have f1 := frozen_of_row _ _ 1 _ _ Q2.out
          go_wp2_with fail
          exact HQ.out _ ⟨ll + bv v1, lo + bv v2⟩ 0 k2 0 _ _ _ _ _ _ _ _ _ _ _ _ _ _ _ _ _ _ _ _ _ _ _ _ _ _ _ _ _ _ _ _ _ _ _ _ _ _ _ _ _ _ _ _ _ _ _ F.out (rnow_put N2.out LQ.out Q2.out _ _) (put2 Q2.out _ _) (fun _ => rfl)
      · obtain ⟨nb, hnb⟩ : ∃ nb, nm e2 = nb := ⟨_, rfl⟩
        have hb0 : nb ≠ 0 := hnb ▸ nm_ne he2
        have F := Lib.hid (show entR st told ⟨ll, lo⟩ (P.drop k, 0) = (⟨0, 0⟩, (P.drop k2, e2), nb) from hnb ▸ R2.out.1 he2)
        have HB0 := Lib.hid hb0
        rw [hnb]
        have t2 : ((nb : Int) != 0) = true := by simp; omega
        clear hnb hb0 he2 y1 y2
        try dsimp only
        have r0 := cell_of_row _ _ 0 _ _ _ Q2.out
        have r1 := cell_of_row _ _ 1 _ _ _ Q2.out
        have f0 := frozen_of_row _ _ 0 _ _ Q2.out
        have f1 := frozen_of_row _ _ 1 _ _ Q2.out
        go_wp2_with fail
        exact HQ.out _ ⟨0, 0⟩ nb k2 e2 _ _ _ _ _ _ _ _ _ _ _ _ _ _ _ _ _ _ _ _ _ _ _ _ _ _ _ _ _ _ _ _ _ _ _ _ _ _ _ _ _ _ _ _ _ _ _ F.out (rnow_put N2.out LQ.out Q2.out _ _) (put2 Q2.out _ _) (fun h => absurd h HB0.out)
  · obtain ⟨nb, hnb⟩ : ∃ nb, nm e1 = nb := ⟨_, rfl⟩
    have hb0 : nb ≠ 0 := hnb ▸ nm_ne he1
    have F := Lib.hid (show entR st told ⟨ll, lo⟩ (P.drop k, 0) = (⟨0, 0⟩, (P.drop k1, e1), nb) from hnb ▸ R1.out.1 he1)
    have HB0 := Lib.hid hb0
    rw [hnb]
    have t2 : ((nb : Int) != 0) = true := by simp; omega
    clear hnb hb0 he1 R1 z3 z4
    try dsimp only
    have r0 := cell_of_row _ _ 0 _ _ _ Q1.out
    have r1 := cell_of_row _ _ 1 _ _ _ Q1.out
    have f0 := frozen_of_row _ _ 0 _ _ Q1.out
    have f1 := frozen_of_row _ _ 1 _ _ Q1.out
    go_wp2_with fail
    exact HQ.out _ ⟨0, 0⟩ nb k1 e1 _ _ _ _ _ _ _ _ _ _ _ _ _ _ _ _ _ _ _ _ _ _ _ _ _ _ _ _ _ _ _ _ _ _ _ _ _ _ _ _ _ _ _ _ _ _ _ F.out (rnow_put N1.out LQ.out Q1.out _ _) (put2 Q1.out _ _) (fun h => absurd h HB0.out)
/-- What entry answers. -/
def EntQ (w : World) (b : Nat) (P : List (BitVec 8)) (k : Nat) (st : Int) (told : Bool) (a : EntV) (e : Ending) (w' : World) : Prop :=
  ∃ (en : EntV) (er k' bad' : Nat), entR st told a (P.drop k, 0) = (en, (P.drop k', bad'), er) ∧ e = .returned (.tuple #[.agg #[.int .i64 en.lsn, .int .i64 en.off], .int .i64 er]) ∧ RNow w w' b P k' bad' ∧ (er = 0 → bad' = 0)
set_option maxRecDepth 100000 in
set_option maxHeartbeats 4000000 in
theorem idx_entry (xb b k : Nat) (P : List (BitVec 8)) (st ll lo : Int) (told : Bool) (w : World) (hR : RdAt w b P k 0) (hm : P.length ≤ 140737488355328) (A : EntA ll lo st)
    (x0 : w.cell? ⟨xb, 0, none⟩ = some (.int .i64 st)) (x2 : w.cell? ⟨xb, 2, none⟩ = some (.bool told)) (x3 : w.cell? ⟨xb, 3, none⟩ = some (.int .i64 ll)) (x4 : w.cell? ⟨xb, 4, none⟩ = some (.int .i64 lo)) :
    Calls Try.prog 110 #[.pointer (some ⟨xb, 0, none⟩), .pointer (some ⟨b, 0, none⟩)] w (EntQ w b P k st told ⟨ll, lo⟩) := by
  have b1 := below_alloc w (.cells #[.int .i64 0, .int .i64 0] 64)
  have n1 := heap_alloc_new w (.cells #[.int .i64 0, .int .i64 0] 64)
  obtain ⟨w1, hw1⟩ : ∃ w1, w.alloc (.cells #[.int .i64 0, .int .i64 0] 64) = w1 := ⟨_, rfl⟩
  rw [hw1] at b1 n1
  have b2 := below_alloc w1 (.cells #[.int .i64 ll, .int .i64 lo] 64)
  have n2 := heap_alloc_new w1 (.cells #[.int .i64 ll, .int .i64 lo] 64)
  have B2 := Lib.hid (below_trans b1 b2)
  have Q2 := Lib.hid ((b2.block _ (heap_lt n1)).trans n1)
  have P2 := Lib.hid n2
  have LP := Lib.hid (heap_lt n1)
  have LQ := Lib.hid (show b < w.heap.size ∧ w.heap.size ≤ w.heap.size from ⟨hR.lt, Nat.le_refl _⟩)
  have N2 := Lib.hid (show RNow w (w1.alloc (.cells #[.int .i64 ll, .int .i64 lo] 64)) b P k 0 from ⟨hR.on B2.out, (But.refl b w).of_below B2.out⟩)
  have X0 := cell_keep b1 x0
  have X2 := cell_keep b1 x2
  have X3 := cell_keep b1 x3
  have X4 := cell_keep b1 x4
  have Y0 := cell_keep b2 X0
  have Y2 := cell_keep b2 X2
  have sw : IntKind.u64.wrap st = st := IntWalk.u64_in _ (by have := A.s0; have := A.s1; omega)
  have HA := Lib.hid A
  have HM := Lib.hid hm
  clear b1 n1 b2 n2 hR x0 x2 x3 x4 A hm
  go_enter Try.func110, Try.ntmps110
  go_upto_if 18 with (fail)
  obtain ⟨p, hp⟩ : ∃ p, w1.heap.size = p := ⟨_, rfl⟩
  obtain ⟨w2, hw2⟩ : ∃ w2, w1.alloc (.cells #[.int .i64 ll, .int .i64 lo] 64) = w2 := ⟨_, rfl⟩
  rw [hw2] at B2 Q2 P2 N2 Y0 Y2
  rw [hp] at P2 LP
  try rw [hw2]
  try rw [hp]
  clear hw1
  go_cut [7] (fun v wc => v = .int .u64 (leastE st told) ∧ wc = w2)
  case first =>
    cases told with
    | false =>
      go_wp2_with fail
      go_meet
      exact ⟨rfl, rfl⟩
    | true =>
      go_wp2_with fail
      go_meet
      exact ⟨rfl, rfl⟩
  case rest =>
    obtain ⟨rfl, rfl⟩ := hcut
    go_step
    refine entry_rest b w.heap.size p k P st ll lo told w wc _ _ _ _ _ _ _ _ _ _ _ _ _ _ _ _ _ _ _ _ _ _ _ _ _ _ _ _ _ _ _ _ _ _ _ _ _ _ _ _ _ _ _ _ _ _ _ _ _ _ _ _ _ _ _ _ _ _ _ _ _ _ _ _ _ HM.out HA.out LQ LP.out N2 Q2 P2 ?_
    intro wd en er k' bad' x8 x9 x10 x24 x25 x26 x27 x28 x29 x30 x31 x32 x33 x34 x35 x36 x37 x38 x39 x40 x41 x42 x43 x44 x45 x46 x47 x48 x49 x50 x51 x52 x53 x54 x55 x56 x57 x58 x59 x60 x61 x62 x63 x64 x65 x66 x67 h1 h2 h3 h4
    have H1 := Lib.hid h1
    have H2 := Lib.hid h2
    have H3 := Lib.hid h3
    have H4 := Lib.hid h4
    clear h1 h2 h3 h4
    refine bodyPost_ret (results_ent2 rfl _ _ w.heap.size _ _ rfl (cell_of_row _ _ 0 _ _ _ H3.out) (cell_of_row _ _ 1 _ _ _ H3.out)) rfl ?_
    exact ⟨en, er, k', bad', H1.out, rfl, H2.out, H4.out⟩
end Go.Proofs.Ytmkljmljbbijeaa

/-! index's body walked. -/
namespace Go.Proofs.Ytmkljmljbbijeaa
open Go.RowKit

theorem RdAt.offS {W W' : World} {b k bad : Nat} {P : List (BitVec 8)} (h : RdAt W b P k bad) (S : Nat → Prop) (hq : ¬ S b) (hx : ∀ q, S q → ∃ x, W.cell? ⟨q, 0, none⟩ = some (.int .i64 x)) (hu : ∀ k, k < W.heap.size → ¬ S k → W'.heap[k]? = W.heap[k]?) : RdAt W' b P k bad := by
  obtain ⟨ao, cap, hc, hbs, r⟩ := h.bytes
  have hb := hu b h.lt hq
  have cb : ∀ o, W'.cell? ⟨b, o, none⟩ = W.cell? ⟨b, o, none⟩ := fun o => World.cell?_of_block (a := ⟨b, o, none⟩) hb
  have fb : ∀ o, W'.frozen? ⟨b, o, none⟩ = W.frozen? ⟨b, o, none⟩ := fun o => World.frozen?_of_block (a := ⟨b, o, none⟩) hb
  refine ⟨⟨ao, cap, (cb 0).trans hc, fun i hi => ?_, r⟩, (cb 1).trans h.at1, (cb 2).trans h.at2, (fb 1).trans h.free1, (fb 2).trans h.free2, h.le⟩
  obtain ⟨g, off, e, hcell⟩ := hbs i hi
  have hg : ¬ S g := fun e2 => by
    obtain ⟨x, hx⟩ := hx g e2
    rcases r.1 with ⟨e3, -⟩ | ⟨g', e3, -⟩
    · rw [e3] at e; cases e
    · obtain ⟨g0, off0, e4, hc0⟩ := hbs 0 (by omega)
      rw [e3] at e e4
      injection e with e; injection e with e5 e6
      injection e4 with e4; injection e4 with e7 e8
      subst e5 e6 e7 e8
      rw [show (0 : Nat) + 0 = 0 from rfl, hx] at hc0
      cases hc0
  exact ⟨g, off, e, (World.cell?_of_block (a := ⟨g, off + i, none⟩) (hu g (block_lt_of_cell hcell) hg)).trans hcell⟩
/-- body's memory. -/
structure LI (w0 : World) (b xb : Nat) (P : List (BitVec 8)) (k bad : Nat) (X : IdxV) (ao : Option Addr) (n ca : Nat) (W : World) : Prop where
  rd : RdAt W b P k bad
  at' : IdxAt W xb xb X ao n ca
  low : Below w0.heap.size w0 W
  lb : w0.heap.size ≤ b
  bx : b < xb
  emp : X.l = [] → (Value.slice ao n ca).ownBlock = none
section
variable {w0 W W' : World} {b xb k bad n ca : Nat} {P : List (BitVec 8)} {X : IdxV} {ao : Option Addr}
theorem LI.now (h : LI w0 b xb P k bad X ao n ca W) {k' bad' : Nat} (hn : RNow W W' b P k' bad') : LI w0 b xb P k' bad' X ao n ca W' :=
  ⟨hn.at', h.at'.move fun q hq => by
    have hlt : q < W.heap.size ∧ q ≠ b := by
      have := h.bx
      rcases hq with rfl | hq
      · exact ⟨heap_lt h.at'.row, by omega⟩
      · obtain ⟨h1, c, h2⟩ := held_blk h.at'.held hq
        exact ⟨heap_lt h2, by omega⟩
    exact hn.but.block q hlt.1 hlt.2, h.low.trans ⟨hn.but.os, hn.but.tape, hn.but.output, hn.but.size, fun z hz => hn.but.block z (by have := h.low.size; omega) (by have := h.lb; omega)⟩, h.lb, h.bx, h.emp⟩
theorem LI.on (h : LI w0 b xb P k bad X ao n ca W) (hb : Below W.heap.size W W') : LI w0 b xb P k bad X ao n ca W' :=
  ⟨h.rd.on hb, h.at'.keep hb, h.low.trans (hb.mono h.low.size), h.lb, h.bx, h.emp⟩
/-- An entry's box, set. -/
theorem LI.put (h : LI w0 b xb P k bad X ao n ca W) {q : Nat} {x y : Int} (hr : W.heap[q]? = some (.cells #[.int .i64 x, .int .i64 y] 64 (0, 0))) (hq : xb < q) (hl : (Value.slice ao n ca).ownBlock ≠ some q) (u v : Value) : LI w0 b xb P k bad X ao n ca ((W.setCell ⟨q, 0, none⟩ u).setCell ⟨q, 1, none⟩ v) := by
  have hb := h.bx
  have hlb := h.lb
  exact ⟨rd_put2 h.rd (by omega) hr u v, h.at'.move fun z hz => (far_set (fun e => by
    rcases hz with hz | hz
    · omega
    · exact hl (e ▸ hz))).trans (far_set (fun e => by
    rcases hz with hz | hz
    · omega
    · exact hl (e ▸ hz))), put2_below h.low (by omega) u v, h.lb, h.bx, h.emp⟩
theorem LI.turn (h : LI w0 b xb P k bad X ao n ca W) {Y : IdxV} {a' : Option Addr} {n' ca' : Nat} (ht : Turned W W' xb (.slice ao n ca) (.slice a' n' ca')) (hat : IdxAt W' xb xb Y a' n' ca') (he : Y.l ≠ []) : LI w0 b xb P k bad Y a' n' ca' W' := by
  have hb := h.bx
  have hlb := h.lb
  refine ⟨h.rd.offS (fun q => q = xb ∨ (Value.slice ao n ca).ownBlock = some q) (fun e => ?_) (fun q hq => ?_) (fun z hz hn => ht.far z hz (fun e => hn (.inl e)) (fun e => hn (.inr e))), hat, h.low.trans (ht.below (by omega) (fun j hj => by have := (held_blk h.at'.held hj).1; omega) h.low.size), h.lb, h.bx, fun e => absurd e he⟩
  · rcases e with e | e
    · omega
    · have := (held_blk h.at'.held e).1; omega
  · rcases hq with rfl | hq
    · exact ⟨_, cell_of_row _ _ 0 _ _ _ h.at'.row⟩
    · by_cases hl : X.l = []
      · rw [h.emp hl] at hq; cases hq
      · obtain ⟨g, rfl, -, hc, -⟩ := h.at'.held.get (i := 0) (List.length_pos_iff.2 hl)
        have e : g = q := by simpa [Value.ownBlock] using hq
        subst e
        exact ⟨_, by simpa using hc.c0⟩
end
/-- What the loop's end makes of it. -/
def finR (r : IdxV × RS × Nat) : IdxV × Nat := if r.2.2 ≠ 0 then (idx0 0, r.2.2) else if r.2.1.1 ≠ [] then (idx0 0, 4) else (r.1, 0)
theorem bodyI_of {P : List (BitVec 8)} {k1 e1 : Nat} {v1 : BitVec 64} (h1 : VarH P 0 0 mostS v1 k1 e1) :
    (e1 ≠ 0 → bodyI P = (idx0 0, nm e1)) ∧ (e1 = 0 → v1 = 0#64 → bodyI P = (idx0 0, 4)) ∧
    (e1 = 0 → v1 ≠ 0#64 → ∀ {v2 : BitVec 64} {k2 e2 : Nat}, VarH P k1 0 mostN v2 k2 e2 → (e2 ≠ 0 → bodyI P = (idx0 0, nm e2)) ∧ (e2 = 0 → bodyI P = finR (entsR v2.toNat (idx0 (bv v1)) (P.drop k2, 0)))) := by
  have s1 := varH_stp h1
  rw [List.drop_zero] at s1
  refine ⟨fun he => ?_, fun he hv => ?_, fun he hv v2 k2 e2 h2 => ?_⟩
  · unfold bodyI; simp only [s1]; rw [if_pos he]
  · subst he; unfold bodyI; simp only [s1]; rw [if_neg (by simp), if_pos hv]
  · subst he
    have s2 := varH_stp h2
    refine ⟨fun he => ?_, fun he => ?_⟩
    · unfold bodyI; simp only [s1]; rw [if_neg (by simp), if_neg hv]; simp only [s2]; rw [if_pos he]
    · subst he; unfold bodyI finR; simp only [s1]; rw [if_neg (by simp), if_neg hv]; simp only [s2]; rw [if_neg (by simp)]
theorem idx0_rd {s : Int} (h : 1 ≤ s) (h2 : s ≤ 1048576) : RdOk (idx0 s) := ⟨idx0_ok h h2, fun e => (by cases e)⟩
/-- What loading answers, in memory. -/
def LoadQ (w : World) (r : IdxV × Nat) (e : Ending) (w' : World) : Prop :=
  (r.2 ≠ 0 ∧ ∃ v, e = .returned (.tuple #[v, .int .i64 r.2]) ∧ Below w.heap.size w w') ∨
  (r.2 = 0 ∧ RdOk r.1 ∧ ∃ xb ao n ca, e = .returned (.tuple #[.pointer (some ⟨xb, 0, none⟩), .int .i64 0]) ∧ IdxAt w' w.heap.size xb r.1 ao n ca ∧ Below w.heap.size w w')
/-- Where the loop stands. -/
structure RunI (F : IdxV × Nat) (P : List (BitVec 8)) (X : IdxV) (k bad er c : Nat) : Prop where
  on : er = 0 → bad = 0 ∧ RdOk X ∧ finR (entsR c X (P.drop k, 0)) = F
  off : er ≠ 0 → F.2 = er
theorem entsR_succ {X : IdxV} {s s' : RS} {en : EntV} {er c : Nat} (h : entR X.step X.told X.last s = (en, s', er)) : entsR (c + 1) X s = if er = 0 then entsR c (pushV X en) s' else (X, s', er) := by
  rw [entsR]
  simp only [h]
theorem RunI.next {F : IdxV × Nat} {P : List (BitVec 8)} {X : IdxV} {k bad c k' bad' er : Nat} {en : EntV} (h : RunI F P X k bad 0 (c + 1)) (hr : entR X.step X.told X.last (P.drop k, 0) = (en, (P.drop k', bad'), er)) (hb : er = 0 → bad' = 0) : RunI F P (pushV X en) k' bad' er c := by
  obtain ⟨-, hx, hf⟩ := h.on rfl
  rw [entsR_succ hr] at hf
  refine ⟨fun e => ?_, fun e => ?_⟩
  · subst e
    have h0 := hb rfl
    subst h0
    rw [if_pos rfl] at hf
    exact ⟨rfl, entR_ok hx hr (fun _ => nm_ne), hf⟩
  · rw [if_neg e] at hf
    rw [← hf]
    unfold finR
    rw [if_pos e]
theorem IdxAt.base {w : World} {base base' xb n ca : Nat} {X : IdxV} {ao : Option Addr} (h : IdxAt w base xb X ao n ca) (hb : base' ≤ base) : IdxAt w base' xb X ao n ca :=
  ⟨h.row, by
    rcases h.held with h0 | ⟨g, cap, cur, e, hg, r⟩
    · exact .inl h0
    · exact .inr ⟨g, cap, cur, e, Nat.le_trans hb hg, r⟩, Nat.le_trans hb h.low⟩

set_option maxRecDepth 100000 in
set_option maxHeartbeats 16000000 in
theorem idx_body (ao0 : Option Addr) (P : List (BitVec 8)) (n0 ca0 : Nat) (w : World) (hP : BytesAt w ao0 P) (hn : P.length = n0) (hz : ao0 = none → ca0 = 0) (hm : P.length ≤ 140737488351232) :
    Calls Try.prog 90 #[.slice ao0 n0 ca0] w (LoadQ w (bodyI P)) := by
  subst hn
  have HP := Lib.hid hP
  have HZ := Lib.hid hz
  have HM := Lib.hid hm
  obtain ⟨F, hF⟩ : ∃ F, bodyI P = F := ⟨_, rfl⟩
  have HF := Lib.hid hF
  rw [hF]
  clear hP hz hm hF
  go_enter Try.func90, Try.ntmps90
  go_wp2_with fail
  refine (new_reader_far ao0 P ca0 w HP.out HZ.out HM.out).mono ?_
  rintro e w2 ⟨b, rfl, hb, hR, hb2⟩
  have HLB := Lib.hid hb
  have HRD := Lib.hid hR
  have HB2 := Lib.hid hb2
  have HM2 := Lib.hid (show P.length ≤ 140737488355328 by have := HM.out; omega)
  clear hb hR hb2
  obtain ⟨v1, k1, e1, hv1⟩ := varH_some P 0 0 mostS
  have V1 := Lib.hid hv1
  have R1 := Lib.hid (bodyI_of hv1)
  clear hv1
  go_wp2_with fail
  refine (rd_field b P 0 mostS w2 HRD.out HM2.out v1 k1 e1 V1.out).mono ?_
  rintro e w3 ⟨rfl, hN⟩
  have N3 := Lib.hid hN
  have L3 := Lib.hid (show Below w.heap.size w w3 from hN.but.below HB2.out HLB.out HB2.out.size)
  clear hN
  by_cases he1 : e1 = 0
  · subst he1
    rw [show nm 0 = 0 from rfl]
    have hle : bv v1 ≤ 1048576 := by
      have := stp_le (varH_stp V1.out) rfl
      exact this
    by_cases hv : bv v1 = 0
    · have t1 : (bv v1 == 0) = true := by simp [hv]
      have HE := Lib.hid (HF.out.symm.trans (R1.out.2.1 rfl (bv_zero.2 hv)))
      clear hv hle
      go_wp2_with fail
      go_ret2
      exact .inl ⟨by rw [HE.out]; decide, .pointer none, by rw [HE.out]; rfl, L3.out⟩
    · have t1 : (bv v1 == 0) = false := by simp [hv]
      have y1 := i64_of_bv v1 (by omega)
      have S1 := Lib.hid (show 1 ≤ bv v1 ∧ bv v1 ≤ 1048576 from ⟨by have := bv_nonneg v1; omega, hle⟩)
      obtain ⟨v2, k2, e2, hv2⟩ := varH_some P k1 0 mostN
      have V2 := Lib.hid hv2
      have R2 := Lib.hid (R1.out.2.2 rfl (fun e => hv (bv_zero.1 e)) hv2)
      obtain ⟨st, hst⟩ : ∃ st, bv v1 = st := ⟨_, rfl⟩
      rw [hst] at t1 y1 S1 R2 ⊢
      have bX := below_alloc w3 (.cells #[.int .i64 st, .slice none 0 0, .bool false, .int .i64 0, .int .i64 0] 85)
      have nX := heap_alloc_new w3 (.cells #[.int .i64 st, .slice none 0 0, .bool false, .int .i64 0, .int .i64 0] 85)
      obtain ⟨w4, hw4⟩ : ∃ w4, w3.alloc (.cells #[.int .i64 st, .slice none 0 0, .bool false, .int .i64 0, .int .i64 0] 85) = w4 := ⟨_, rfl⟩
      rw [hw4] at bX nX
      have I4 := Lib.hid (show LI w b w3.heap.size P k1 0 (idx0 st) none 0 0 w4 from ⟨N3.out.at'.on bX, ⟨nX, HeldE.nil _ _, Nat.le_refl _⟩, below_trans L3.out bX, HLB.out, N3.out.at'.lt, fun _ => rfl⟩)
      clear hv hle hv2 hst bX nX R1
      go_wp2_with fail
      refine (rd_field b P k1 mostN w4 I4.out.rd HM2.out v2 k2 e2 V2.out).mono ?_
      rintro e w5 ⟨rfl, hN⟩
      have I5 := Lib.hid (I4.out.now hN)
      obtain ⟨xb, hxb⟩ : ∃ xb, w3.heap.size = xb := ⟨_, rfl⟩
      rw [hxb] at I5 ⊢
      have HXB := Lib.hid (show xb ≤ xb from Nat.le_refl _)
      have RN := Lib.hid (show RunI F P (idx0 st) k2 e2 (nm e2) v2.toNat from ⟨fun e => ⟨nm_zero.1 e, idx0_rd S1.out.1 S1.out.2, by
        rw [← HF.out, R2.out.2 (nm_zero.1 e)]⟩, fun e => by rw [← HF.out, R2.out.1 (fun h => e (nm_zero.2 h))]⟩)
      obtain ⟨nb, hnb⟩ : ∃ nb, nm e2 = nb := ⟨_, rfl⟩
      obtain ⟨cn, hcn⟩ : ∃ cn, v2.toNat = cn := ⟨_, rfl⟩
      have CN : cn ≤ 18446744073709551615 := by have := v2.isLt; omega
      rw [hnb, hcn] at RN
      rw [hnb, show bv v2 = (cn : Int) from by rw [← hcn]; rfl]
      clear hN hxb hw4 hnb hcn I4 t1 y1 R2 V1 V2 N3 L3
      go_wp2_with fail
      go_loopw [6, 8] (fun v6 v8 wr => ∃ (er c k bad n ca : Nat) (X : IdxV) (ao : Option Addr), c ≤ 18446744073709551615 ∧ v6 = .int .i64 er ∧ v8 = .int .u64 c ∧ Hid (LI w b xb P k bad X ao n ca wr) ∧ Hid (RunI F P X k bad er c)) (fun _ v8 _ => (intOf v8).toNat)
      case atStart => exact ⟨_, _, _, _, _, _, _, _, CN, rfl, rfl, I5, RN⟩
      case round =>
        clear I5 RN
        obtain ⟨er, c, k, bad, n, ca, X, ao, cle, rfl, rfl, I, RN⟩ := hrel
        by_cases h0 : er = 0
        · subst h0
          obtain ⟨hb0, hx, hf⟩ := RN.out.on rfl
          subst hb0
          have HX := Lib.hid hx
          have FF := Lib.hid hf
          clear hx hf
          match c with
          | 0 =>
            have hle := I.out.rd.le
            obtain ⟨L, hL⟩ : ∃ L : Nat, P.length - k = L := ⟨_, rfl⟩
            have HL := Lib.hid hL
            have F2 := Lib.hid (show (if P.drop k ≠ [] then ((idx0 0, 4) : IdxV × Nat) else (X, 0)) = F from by
              have h : finR (X, (P.drop k, 0), 0) = F := FF.out
              unfold finR at h
              rw [if_neg (fun e => e rfl)] at h
              exact h)
            have RL := reader_left b P k 0 wr I.out.rd HM2.out
            rw [hL] at RL
            clear hle hL FF
            by_cases hl : 0 < L
            · have hlz : 0 < (L : Int) := by omega
              have HE := Lib.hid (show F = (idx0 0, 4) from by
                rw [← F2.out, if_pos]
                intro e
                have := congrArg List.length e
                rw [List.length_drop, HL.out] at this
                simp at this
                omega)
              clear hl
              go_wp2_with (refine RL.mono ?_; rintro x w6 ⟨rfl, z, rfl⟩)
              go_ret2
              exact .inl ⟨by rw [HE.out]; decide, .pointer (some ⟨xb, 0, none⟩), by rw [HE.out]; rfl, below_trans I.out.low (below_drewN _ _)⟩
            · obtain rfl : L = 0 := by omega
              have HE := Lib.hid (show F = (X, 0) from by
                rw [← F2.out, if_neg]
                intro e
                exact e (List.drop_eq_nil_of_le (by have := HL.out; omega)))
              clear hl
              go_wp2_with (refine RL.mono ?_; rintro x w6 ⟨rfl, z, rfl⟩)
              go_ret2
              exact .inr ⟨by rw [HE.out], by rw [HE.out]; exact HX.out, xb, ao, n, ca, rfl, by rw [HE.out]; exact (I.out.at'.keep (below_drewN _ _)).base (by have := I.out.lb; have := I.out.bx; omega), below_trans I.out.low (below_drewN _ _)⟩
          | c + 1 =>
            obtain ⟨q, hq⟩ : ∃ q, wr.heap.size = q := ⟨_, rfl⟩
            have b1 := below_alloc wr (.cells #[.int .i64 0, .int .i64 0] 64)
            have n1 := heap_alloc_new wr (.cells #[.int .i64 0, .int .i64 0] 64)
            obtain ⟨w3, hw3⟩ : ∃ w3, wr.alloc (.cells #[.int .i64 0, .int .i64 0] 64) = w3 := ⟨_, rfl⟩
            rw [hw3] at b1 n1
            rw [hq] at n1
            have I3 := Lib.hid (I.out.on b1)
            have E3 := Lib.hid n1
            have XQ := Lib.hid (show xb < q from hq ▸ heap_lt I.out.at'.row)
            have NE := Lib.hid (show (Value.slice ao n ca).ownBlock ≠ some q from fun e => by
              obtain ⟨-, cc, hc⟩ := held_blk I.out.at'.held e
              have := heap_lt hc; omega)
            have HLL := Lib.hid (show X.l.length ≤ 8796093022207 from by have := HX.out.ok.len; omega)
            have EA := Lib.hid (show EntA X.last.lsn X.last.off X.step from ⟨HX.out.ok.lsn.1, HX.out.ok.lsn.2, HX.out.ok.off.1, HX.out.ok.off.2, HX.out.ok.step.1, HX.out.ok.step.2⟩)
            have EN := idx_entry xb b k P X.step X.last.lsn X.last.off X.told w3 I3.out.rd HM2.out EA.out (cell_of_row _ _ 0 _ _ _ I3.out.at'.row) (cell_of_row _ _ 2 _ _ _ I3.out.at'.row) (cell_of_row _ _ 3 _ _ _ I3.out.at'.row) (cell_of_row _ _ 4 _ _ _ I3.out.at'.row)
            have cz : 0 < (c : Int) + 1 := by omega
            have cw : IntKind.u64.wrap (c : Int) = (c : Int) := IntWalk.u64_in _ (by omega)
            clear b1 n1 I
            have ENH := Lib.hid EN
            clear EN
            go_wp2_with fail
            refine ENH.out.mono ?_
            rintro x w4 ⟨en, er, k', bad', hr, rfl, hN, hb⟩
            have I4 := Lib.hid (I3.out.now hN)
            have E4 := Lib.hid ((hN.but.block q (heap_lt E3.out) (by have := I3.out.bx; have := XQ.out; omega)).trans E3.out)
            have NR := Lib.hid (show RunI F P (pushV X en) k' bad' er c from RN.out.next hr hb)
            have r0 := cell_of_row _ _ 0 _ _ _ E4.out
            have r1 := cell_of_row _ _ 1 _ _ _ E4.out
            have f0 := frozen_of_row _ _ 0 _ _ E4.out
            have f1 := frozen_of_row _ _ 1 _ _ E4.out
            have I7 := Lib.hid (I4.out.put E4.out XQ.out NE.out (.int .i64 en.lsn) (.int .i64 en.off))
            have E7 := Lib.hid (put2 E4.out (.int .i64 en.lsn) (.int .i64 en.off))
            clear hr hN hb RN FF HX ENH I3 E3
            try dsimp only
            go_wp2_with fail
            obtain ⟨w7, hw7⟩ : ∃ w7, ((w4.setCell ⟨q, 0, none⟩ (.int .i64 en.lsn)).setCell ⟨q, 1, none⟩ (.int .i64 en.off)) = w7 := ⟨_, rfl⟩
            rw [hw7] at I7 E7
            rw [hw7]
            have H7 := Lib.hid I7.out.at'
            clear hw7 r0 r1 f0 f1 I4 E4 hw3 hq
            have q0 : ∀ p : In (AddR xb q en.lsn en.off (.slice ao n ca)), p.w.cell? ⟨xb, 1, none⟩ = some (.slice ao n ca) := fun p => p.h.x1
            have q1 : ∀ p : In (AddR xb q en.lsn en.off (.slice ao n ca)), p.w.cell? ⟨q, 0, none⟩ = some (.int .i64 en.lsn) := fun p => p.h.e0
            have q2 : ∀ p : In (AddR xb q en.lsn en.off (.slice ao n ca)), p.w.cell? ⟨q, 1, none⟩ = some (.int .i64 en.off) := fun p => p.h.e1
            refine wp_region_mixed_tail [0, 1, 2, 3, 4, 5, 6, 7, 8, 9] 10 (AddR xb q en.lsn en.off (.slice ao n ca)) (by kernel_rfl) (by kernel_rfl) (fun c a d v w h => by cases d <;> exact h) ((AddR.mk7 H7.out E7.out).below (below_drew _)) ?_
            intro hne
            simp only [pick, List.map_cons, List.map_nil, List.getD_cons_zero, List.getD_cons_succ, List.drop_succ_cons, List.drop_zero]
            refine wpMix_reads 6 _ (by kernel_rfl) ?_
            simp only [List.take_succ_cons, List.take_zero, List.drop_succ_cons, List.drop_zero]
            repeat (go_big_quiet_step (fail))
            refine wpQuiet_nil ?_
            refine wpMix_act rfl ?_ rfl
            try dsimp only
            go_wp2_with fail
            have B8 := Lib.hid (below_trans (below_drew w7) (below_alloc w7.drew (.cells #[.int .i64 en.lsn, .int .i64 en.off] 64)))
            have NC := Lib.hid (ent_new w7.drew en)
            have H8 := Lib.hid (H7.out.keep B8.out)
            have E8 := Lib.hid ((B8.out.block _ (heap_lt E7.out)).trans E7.out)
            refine ⟨⟨⟨_, AddR.mk7 H8.out E8.out⟩, rfl⟩, ?_⟩
            refine wpMix_act rfl ?_ rfl
            try dsimp only
            go_wp2_with (refine wpList_append_held (o := ⟨some 52, _, _, _, _, _⟩) rfl _ _ rfl xb (.slice ao n ca) _ rfl H8.out.held _ en rfl NC.out HLL.out (Nat.le_trans (Nat.le_of_lt (heap_lt H7.out.row)) B8.out.size) ?_)
            intro v3 w3 ho3 hg3 hw3
            obtain ⟨a3, c3, hv3, -⟩ := ho3.shape
            obtain ⟨n3, hn3⟩ : ∃ n3, (X.l ++ [en]).length = n3 := ⟨_, rfl⟩
            rw [show (X.l ++ [en]).length = n3 from hn3] at hv3
            subst hv3
            have P3 := Lib.hid (idx_push (e := en) B8.out H8.out E8.out NE.out ho3 hg3 (fun j hj => (hw3 j hj).imp id fun h => by omega))
            have NL3 := Lib.hid (show X.l ++ [en] ≠ [] by simp)
            have k1 := cell_of_row _ _ 1 _ _ _ P3.out.row
            have f1 := frozen_of_row _ _ 1 _ _ P3.out.row
            clear ho3 hg3 hw3 hn3
            go_wp2_with fail
            refine ⟨⟨⟨_, P3.out.reads⟩, rfl⟩, ?_⟩
            refine wpMix_reads 2 _ (by kernel_rfl) ?_
            simp only [List.take_succ_cons, List.take_zero, List.drop_succ_cons, List.drop_zero]
            repeat (go_big_quiet_step (fail))
            refine wpQuiet_nil ?_
            refine wpMix_nil ?_
            clear hne q0 q1 q2
            change wpList _ _ _ _ _ _
            try dsimp only
            go_wp2_with fail
            have IN := Lib.hid (show q ≠ xb from fun e => by have h := P3.out.ent; rw [e, P3.out.at'.row] at h; simp at h)
            have F9 := Lib.hid (idx_fin P3.out.at' P3.out.ent IN.out)
            have q0 : ∀ p : In (EntR q en.lsn en.off), p.w.cell? ⟨q, 0, none⟩ = some (.int .i64 en.lsn) := fun p => p.h.e0
            have q1 : ∀ p : In (EntR q en.lsn en.off), p.w.cell? ⟨q, 1, none⟩ = some (.int .i64 en.off) := fun p => p.h.e1
            have k2 := cell_of_row _ _ 2 _ _ _ P3.out.row
            have f2 := frozen_of_row _ _ 2 _ _ P3.out.row
            have k3 := cell_of_row _ _ 3 _ _ _ P3.out.row
            have k4 := cell_of_row _ _ 4 _ _ _ P3.out.row
            have f3 := frozen_of_row _ _ 3 _ _ P3.out.row
            have f4 := frozen_of_row _ _ 4 _ _ P3.out.row
            clear k1 f1
            refine wp_region_mixed [0, 1, 2, 3, 4, 5, 6, 7, 8] (EntR q en.lsn en.off) (by kernel_rfl) (by kernel_rfl) (fun c a d v w h => by cases d <;> exact h) F9.out.e0 ?_
            intro hne
            simp only [pick, List.map_cons, List.map_nil, List.getD_cons_zero, List.getD_cons_succ]
            refine wpMix_reads 5 _ (by kernel_rfl) ?_
            simp only [List.take_succ_cons, List.take_zero, List.drop_succ_cons, List.drop_zero]
            repeat (go_big_quiet_step (fail))
            refine wpQuiet_nil ?_
            refine wpMix_act rfl ?_ rfl
            try dsimp only
            go_wp2_with fail
            refine ⟨⟨⟨_, F9.out.e1⟩, rfl⟩, ?_⟩
            refine wpMix_reads 2 _ (by kernel_rfl) ?_
            simp only [List.take_succ_cons, List.take_zero, List.drop_succ_cons, List.drop_zero]
            repeat (go_big_quiet_step (fail))
            refine wpQuiet_nil ?_
            refine wpMix_act rfl ?_ rfl
            try dsimp only
            go_wp2_with fail
            refine ⟨⟨⟨_, F9.out.e2⟩, rfl⟩, ?_⟩
            refine wpMix_nil ?_
            clear hne q0 q1 k2 f2 k3 k4 f3 f4
            have NI := Lib.hid (LI.turn (I7.out) (P3.out.turned.trans F9.out.turned) F9.out.at' NL3.out)
            try dsimp only
            go_wp2_with fail
            go_roundw
            case rel => exact ⟨er, c, k', bad', n3, c3, _, a3, by omega, rfl, rfl, NI, NR⟩
            case measure => simp [intOf]
        · have HE := Lib.hid (RN.out.off h0)
          have H0 := Lib.hid h0
          have t2 : ((er : Int) == 0) = false := by simp; omega
          clear h0
          go_wp2_with fail
          go_ret2
          exact .inl ⟨by rw [HE.out]; exact H0.out, .pointer (some ⟨xb, 0, none⟩), by rw [HE.out]; rfl, I.out.low⟩
  · obtain ⟨nb, hnb⟩ : ∃ nb, nm e1 = nb := ⟨_, rfl⟩
    have hb0 : nb ≠ 0 := hnb ▸ nm_ne he1
    have HE := Lib.hid (show F = (idx0 0, nb) from hnb ▸ HF.out.symm.trans (R1.out.1 he1))
    have HB0 := Lib.hid hb0
    rw [hnb]
    have t2 : ((nb : Int) != 0) = true := by simp; omega
    clear hnb hb0 he1 R1
    go_wp2_with fail
    go_ret2
    exact .inl ⟨by rw [HE.out]; exact HB0.out, .pointer none, by rw [HE.out]; rfl, L3.out⟩
end Go.Proofs.Ytmkljmljbbijeaa

/-! index.Load walked. -/
namespace Go.Proofs.Ytmkljmljbbijeaa
open Go.RowKit

/-- What Load answers: no index where there is an error. -/
def LoadZ (w : World) (r : IdxV × Nat) (e : Ending) (w' : World) : Prop :=
  (r.2 ≠ 0 ∧ e = .returned (.tuple #[.pointer none, .int .i64 r.2]) ∧ Below w.heap.size w w') ∨
  (r.2 = 0 ∧ RdOk r.1 ∧ ∃ xb ao n ca, e = .returned (.tuple #[.pointer (some ⟨xb, 0, none⟩), .int .i64 0]) ∧ IdxAt w' w.heap.size xb r.1 ao n ca ∧ Below w.heap.size w w')
set_option maxRecDepth 100000 in
theorem idx_load_short (ao : Option Addr) (n ca : Nat) (w : World) (hn : n < 4) : Calls Try.prog 40 #[.slice ao n ca] w (LoadZ w (idx0 0, 2)) := by
  have hz : (n : Int) - 4 < 0 := by omega
  go_enter Try.func40, Try.ntmps40
  go_wp2_with fail
  go_ret2
  exact .inl ⟨by decide, rfl, Below.refl _ _⟩
set_option maxRecDepth 100000 in
set_option maxHeartbeats 4000000 in
theorem idx_load_long (gb off p ca : Nat) (bs : List (BitVec 8)) (w : World) (hb : BytesAt w (some ⟨gb, off, none⟩) bs) (hn : bs.length = p + 4) (hc : p + 4 ≤ ca) (hm : p + 4 ≤ 140737488351232) :
    Calls Try.prog 40 #[.slice (some ⟨gb, off, none⟩) (p + 4) ca] w (LoadZ w (idxR bs)) := by
  have HP := Lib.hid hb
  have HN := Lib.hid hn
  have n2 : ¬ (ca = p) := by omega
  have n3 : ¬ ((p : Int) < 0) := by omega
  have mz : (p : Int) + 4 ≤ 140737488351232 := by omega
  have kz : (p : Int) + 4 ≤ (ca : Int) := by omega
  have kz2 : (p : Int) ≤ (ca : Int) := by omega
  obtain ⟨s, hs⟩ : ∃ s : BitVec 32, (leB ((bs.drop p).take 4)).setWidth 32 = s := ⟨_, rfl⟩
  have D4 : Hid ((bs.drop p).length = 4) := Lib.hid (by rw [List.length_drop, hn]; omega)
  have T4 : (bs.drop p).take 4 = bs.drop p := List.take_of_length_le (by rw [D4.out]; omega)
  have HSS := Lib.hid hs
  have HS2 := Lib.hid (show (leB (bs.drop p)).setWidth 32 = s from by rw [← T4]; exact hs)
  obtain ⟨F, hF⟩ : ∃ F, idxR bs = F := ⟨_, rfl⟩
  have HF := Lib.hid hF
  rw [hF]
  have LP := Lib.hid (show (bs.take p).length = p by rw [List.length_take, hn]; omega)
  clear hb hs hF T4 hn
  go_enter Try.func40, Try.ntmps40
  go_wp2_with fail
  refine (new_reader_n (some ⟨gb, off + p, none⟩) (bs.drop p) 4 _ _ (HP.out.drop p) D4.out (fun h => nomatch h) (by decide)).mono ?_
  rintro e w2 ⟨b, rfl, hbb, hR, hb2⟩
  have RD := Lib.hid hR
  have LB := Lib.hid hbb
  have B2 := Lib.hid hb2
  clear hR hbb hb2
  go_wp2_with fail
  refine (fixed32_ok b (bs.drop p) 0 w2 RD.out (by rw [D4.out]; decide) (by rw [D4.out]; decide)).mono ?_
  rintro e w3 ⟨rfl, hu⟩
  have B3 := Lib.hid (upd_low B2.out hu LB.out B2.out.size)
  clear hu
  rw [List.drop_zero, HSS.out]
  go_wp2_with fail
  refine (crc_sum_n (some ⟨gb, off, none⟩) (bs.take p) p ca w3 ((HP.out.take p).below B3.out) LP.out (by omega)).mono ?_
  rintro e w4 ⟨rfl, hb4⟩
  have B4 := Lib.hid (below_trans B3.out hb4)
  clear hb4
  obtain ⟨S, hS⟩ : ∃ S, Crc.sum (bs.take p) = S := ⟨_, rfl⟩
  have HS := Lib.hid hS
  rw [hS]
  by_cases hq : s = S
  · have t1 : (bv s != bv S) = false := by rw [hq]; simp
    have FE := Lib.hid (show bodyI (bs.take p) = F from by
      rw [← HF.out]
      unfold idxR
      rw [if_neg (by have := HN.out; omega), HN.out, Nat.add_sub_cancel, HS2.out, HS.out, if_neg (fun h => h hq)])
    clear hq hS
    go_wp2_with fail
    refine (idx_body (some ⟨gb, off, none⟩) (bs.take p) p ca w4 ((HP.out.take p).below B4.out) LP.out (fun h => nomatch h) (by rw [LP.out]; omega)).mono ?_
    rw [FE.out]
    rintro e w5 (⟨h0, v, rfl, hb5⟩ | ⟨h0, hx, xb, ao, n, cx, rfl, hat, hb5⟩)
    · obtain ⟨X, er⟩ := F
      dsimp only at h0
      have H0 := Lib.hid h0
      have t2 : ((er : Int) != 0) = true := by simp; omega
      have B5 := Lib.hid (below_trans B4.out hb5)
      clear h0 hb5
      dsimp only
      go_wp2_with fail
      go_ret2
      exact .inl ⟨H0.out, rfl, B5.out⟩
    · have H0 := Lib.hid h0
      have HX := Lib.hid hx
      have HA := Lib.hid (hat.base (show w.heap.size ≤ w4.heap.size from B4.out.size))
      have B5 := Lib.hid (below_trans B4.out hb5)
      clear h0 hb5 hat hx
      try dsimp only
      go_wp2_with fail
      go_ret2
      exact .inr ⟨H0.out, HX.out, xb, ao, n, cx, rfl, HA.out, B5.out⟩
  · have t1 : (bv s != bv S) = true := by
      simp only [bne_iff_ne, ne_eq]
      intro e
      exact hq (bv_inj.1 e)
    have FE := Lib.hid (show F = (idx0 0, 5) from by
      rw [← HF.out]
      unfold idxR
      rw [if_neg (by have := HN.out; omega), HN.out, Nat.add_sub_cancel, HS2.out, HS.out, if_pos hq])
    clear hq hS
    go_wp2_with fail
    go_ret2
    exact .inl ⟨by rw [FE.out]; decide, by rw [FE.out]; rfl, B4.out⟩
theorem idx_load (ao : Option Addr) (bs : List (BitVec 8)) (n ca : Nat) (w : World) (hb : BytesAt w ao bs) (hn : bs.length = n) (hc : n ≤ ca) (hm : n ≤ 140737488351232) :
    Calls Try.prog 40 #[.slice ao n ca] w (LoadZ w (idxR bs)) := by
  rcases Nat.lt_or_ge n 4 with h | h
  · have e : idxR bs = (idx0 0, 2) := by unfold idxR; rw [if_pos (by omega)]
    rw [e]
    exact idx_load_short ao n ca w h
  · obtain ⟨p, rfl⟩ : ∃ p, n = p + 4 := ⟨n - 4, by omega⟩
    obtain ⟨gb, off, rfl, -⟩ := hb 0 (by omega)
    exact idx_load_long gb off p ca bs w hb hn hc hm
end Go.Proofs.Ytmkljmljbbijeaa

/-! What an index saves is read back. -/
namespace Go.Proofs.Ytmkljmljbbijeaa

def Chain (st : Int) (told : Bool) (a : EntV) : List EntV → Prop
  | [] => True
  | e :: L => a.lsn < e.lsn ∧ e.lsn ≤ 9223372036854775807 ∧ a.off + leastE st told ≤ e.off ∧ a.off ≤ e.off ∧ e.off ≤ 2147483647 ∧ Chain st true e L
def goOn : IdxV → List EntV → IdxV
  | Y, [] => Y
  | Y, e :: L => goOn (pushV Y e) L
theorem goOn_step : ∀ (L : List EntV) (Y : IdxV), (goOn Y L).step = Y.step
  | [], _ => rfl
  | e :: L, Y => goOn_step L (pushV Y e)
theorem goOn_l : ∀ (L : List EntV) (Y : IdxV), (goOn Y L).l = Y.l ++ L
  | [], Y => by simp [goOn]
  | e :: L, Y => by rw [goOn, goOn_l L]; simp [pushV]
theorem entR_back {st : Int} {told : Bool} {a e : EntV} (ha : 0 ≤ a.lsn ∧ a.lsn ≤ 9223372036854775807 ∧ 0 ≤ a.off ∧ a.off ≤ 2147483647) (h1 : a.lsn < e.lsn) (h2 : e.lsn ≤ 9223372036854775807) (h3 : a.off + leastE st told ≤ e.off) (h4 : a.off ≤ e.off) (h5 : e.off ≤ 2147483647) (r : List (BitVec 8)) : entR st told a (entB a e ++ r, 0) = (e, (r, 0), 0) := by
  have m1 : bv (mostL a) = 9223372036854775807 - a.lsn := bv_ofInt (by omega) (by omega)
  have m2 : bv (mostO a) = 2147483647 - a.off := bv_ofInt (by omega) (by omega)
  have e1 := stp_num (x := e.lsn - a.lsn) (by omega) (by omega) (numL (e.off - a.off) ++ r) (mostL a) (by omega)
  have e2 := stp_num (x := e.off - a.off) (by omega) (by omega) r (mostO a) (by omega)
  have v1 : bv (BitVec.ofInt 64 (e.lsn - a.lsn)) = e.lsn - a.lsn := bv_ofInt (by omega) (by omega)
  have v2 : bv (BitVec.ofInt 64 (e.off - a.off)) = e.off - a.off := bv_ofInt (by omega) (by omega)
  have n1 : BitVec.ofInt 64 (e.lsn - a.lsn) ≠ 0#64 := fun h => by rw [bv_zero.1 h] at v1; omega
  unfold entR entB
  rw [List.append_assoc]
  simp only [e1]
  rw [if_neg (by simp), if_neg n1]
  simp only [e2]
  rw [if_neg (by simp), v1, v2, if_neg (by omega)]
  rw [show a.lsn + (e.lsn - a.lsn) = e.lsn by omega, show a.off + (e.off - a.off) = e.off by omega]
theorem entsR_back : ∀ (L : List EntV) (Y : IdxV) (r : List (BitVec 8)), (0 ≤ Y.last.lsn ∧ Y.last.lsn ≤ 9223372036854775807 ∧ 0 ≤ Y.last.off ∧ Y.last.off ≤ 2147483647) → Chain Y.step Y.told Y.last L → entsR L.length Y (entsB Y.last L ++ r, 0) = (goOn Y L, (r, 0), 0)
  | [], Y, r, _, _ => rfl
  | e :: L, Y, r, ha, hc => by
    obtain ⟨h1, h2, h3, h4, h5, h6⟩ := hc
    have hr := entR_back ha h1 h2 h3 h4 h5 (entsB e L ++ r)
    rw [List.length_cons, entsB, List.append_assoc, entsR_succ hr, if_pos rfl]
    exact entsR_back L (pushV Y e) r ⟨by show 0 ≤ e.lsn; omega, h2, by show 0 ≤ e.off; omega, h5⟩ h6
theorem drop_nth {L : List EntV} {k : Nat} (h : k < L.length) : L.drop k = nthE L k :: L.drop (k + 1) := by
  rw [List.drop_eq_getElem_cons h]
  simp [nthE, h]
theorem IdxOk.chain {X : IdxV} (h : IdxOk X) : ∀ (m k : Nat), k + m = X.l.length → Chain X.step (decide (0 < k)) (prevE X.l k) (X.l.drop k)
  | 0, k, hk => by rw [List.drop_eq_nil_of_le (by omega)]; trivial
  | m + 1, k, hk => by
    have hlt : k < X.l.length := by omega
    rw [drop_nth hlt]
    have h1 := h.ent k hlt
    have h2 := h.lsn
    have h3 := h.off
    have h4 := h.prev hlt
    have h5 := h.chain m (k + 1) (by omega)
    rw [show decide (0 < k + 1) = true by simp] at h5
    refine ⟨?_, by omega, ?_, by omega, by omega, h5⟩
    · match k, hlt with
      | 0, _ => show 0 < _; omega
      | k + 1, hlt => exact (h.rise k hlt).1
    · match k, hlt with
      | 0, _ => show 0 + leastE X.step (decide (0 < 0)) ≤ _; unfold leastE; simp; omega
      | k + 1, hlt =>
        show (nthE X.l k).off + leastE X.step (decide (0 < k + 1)) ≤ _
        unfold leastE
        rw [if_pos (by simp)]
        exact (h.rise k hlt).2
/-- The index as it is behind saving and loading. -/
def savedV (X : IdxV) : IdxV := goOn (idx0 X.step) X.l
theorem bodyI_back {X : IdxV} (h : IdxOk X) : bodyI (bareI X) = (savedV X, 0) := by
  have hs := h.step
  have hl := h.len
  have e1 := stp_num (x := X.step) (by omega) (by omega) (numL (X.l.length : Nat) ++ entsB ⟨0, 0⟩ X.l) mostS (by have e : bv mostS = 1048576 := rfl; rw [e]; omega)
  have e2 := stp_num (x := (X.l.length : Nat)) (by omega) (by omega) (entsB ⟨0, 0⟩ X.l) mostN (by have e : bv mostN = 18446744073709551615 := rfl; rw [e]; omega)
  have v1 : bv (BitVec.ofInt 64 X.step) = X.step := bv_ofInt (by omega) (by omega)
  have n1 : BitVec.ofInt 64 X.step ≠ 0#64 := fun h => by rw [bv_zero.1 h] at v1; omega
  have v2 : (BitVec.ofInt 64 (X.l.length : Nat)).toNat = X.l.length := by
    have := bv_ofInt (x := (X.l.length : Nat)) (by omega) (by omega)
    unfold bv at this; omega
  have hc := h.chain X.l.length 0 (by omega)
  rw [List.drop_zero] at hc
  have e3 := entsR_back X.l (idx0 X.step) [] ⟨by simp [idx0], by simp [idx0], by simp [idx0], by simp [idx0]⟩ hc
  rw [List.append_nil, show (idx0 X.step).last = ⟨0, 0⟩ from rfl] at e3
  unfold bodyI bareI preI
  rw [List.append_assoc]
  simp only [e1]
  rw [if_neg (by simp), if_neg n1]
  simp only [e2]
  rw [if_neg (by simp), v1, v2, e3]
  simp [savedV]
theorem idxR_back {X : IdxV} (h : IdxOk X) : idxR (idxB X) = (savedV X, 0) := by
  have h4 : (fixedL ((Crc.sum (bareI X)).setWidth 64) 4).length = 4 := fixedL_len _ _
  have hl : (idxB X).length = (bareI X).length + 4 := by unfold idxB; rw [List.length_append, h4]
  have e1 : (idxB X).take ((idxB X).length - 4) = bareI X := by rw [hl, Nat.add_sub_cancel]; unfold idxB; rw [List.take_left]
  have e2 : (idxB X).drop ((idxB X).length - 4) = fixedL ((Crc.sum (bareI X)).setWidth 64) 4 := by rw [hl, Nat.add_sub_cancel]; unfold idxB; rw [List.drop_left]
  unfold idxR
  rw [if_neg (by omega), e1, e2, leB_fixed32, if_neg (by simp)]
  exact bodyI_back h
theorem idxB_len {X : IdxV} (h : IdxOk X) : (idxB X).length ≤ 42949673000 := by
  have h1 := preI_len X
  have h2 := entsB_len ⟨0, 0⟩ X.l
  have h3 := h.len
  unfold idxB bareI
  rw [List.length_append, List.length_append, fixedL_len]
  omega
/-- What was read, saved, is what was read. -/
theorem entR_forth {st : Int} {told : Bool} {a e : EntV} {s t : RS} (h : entR st told a s = (e, t, 0)) : s.1 = entB a e ++ t.1 := by
  unfold entR at h
  obtain ⟨x, t1, hx⟩ : ∃ x t1, stp (mostL a) s = (x, t1) := ⟨_, _, rfl⟩
  simp only [hx] at h
  split at h
  · rename_i hb
    injection h with _ h; injection h with _ h
    exact absurd h (nm_ne hb)
  · rename_i hb
    split at h
    · injection h with _ h; injection h with _ h; cases h
    · obtain ⟨y, t2, hy⟩ : ∃ y t2, stp (mostO a) t1 = (y, t2) := ⟨_, _, rfl⟩
      simp only [hy] at h
      split at h
      · rename_i hb2
        injection h with _ h; injection h with _ h
        exact absurd h (nm_ne hb2)
      · rename_i hb2
        split at h
        · injection h with _ h; injection h with _ h; cases h
        · injection h with he h
          injection h with ht _
          subst he ht
          obtain ⟨-, f1⟩ := stp_forth (most := mostL a) (s := s) (by rw [hx]; simpa using hb)
          obtain ⟨-, f2⟩ := stp_forth (most := mostO a) (s := t1) (by rw [hy]; simpa using hb2)
          rw [hx] at f1
          rw [hy] at f2
          unfold entB
          dsimp only at f1 f2 ⊢
          rw [show a.lsn + bv x - a.lsn = bv x by omega, show a.off + bv y - a.off = bv y by omega, List.append_assoc, ← f2]
          exact f1
theorem entsR_forth : ∀ (n : Nat) {Y Z : IdxV} {s t : RS}, entsR n Y s = (Z, t, 0) → ∃ L, L.length = n ∧ Z = goOn Y L ∧ s.1 = entsB Y.last L ++ t.1
  | 0, Y, Z, s, t, h => by
    rw [entsR] at h
    injection h with h1 h
    injection h with h2 _
    subst h1 h2
    exact ⟨[], rfl, rfl, rfl⟩
  | n + 1, Y, Z, s, t, h => by
    obtain ⟨e, s', er, hr⟩ : ∃ e s' er, entR Y.step Y.told Y.last s = (e, s', er) := ⟨_, _, _, rfl⟩
    rw [entsR_succ hr] at h
    by_cases h0 : er = 0
    · subst h0
      rw [if_pos rfl] at h
      obtain ⟨L, h1, h2, h3⟩ := entsR_forth n h
      refine ⟨e :: L, by rw [List.length_cons, h1], h2, ?_⟩
      rw [entsB, List.append_assoc, entR_forth hr, h3]
      rfl
    · rw [if_neg h0] at h
      injection h with _ h; injection h with _ h
      exact absurd h h0
theorem bodyI_forth {P : List (BitVec 8)} {X : IdxV} (h : bodyI P = (X, 0)) : bareI X = P := by
  unfold bodyI at h
  obtain ⟨x, t1, hx⟩ : ∃ x t1, stp mostS (P, 0) = (x, t1) := ⟨_, _, rfl⟩
  simp only [hx] at h
  split at h
  · rename_i hb
    injection h with _ h
    exact absurd h (nm_ne hb)
  · rename_i hb
    split at h
    · injection h with _ h; cases h
    · obtain ⟨y, t2, hy⟩ : ∃ y t2, stp mostN t1 = (y, t2) := ⟨_, _, rfl⟩
      simp only [hy] at h
      split at h
      · rename_i hb2
        injection h with _ h
        exact absurd h (nm_ne hb2)
      · rename_i hb2
        obtain ⟨Z, t3, er, hz⟩ : ∃ Z t3 er, entsR y.toNat (idx0 (bv x)) t2 = (Z, t3, er) := ⟨_, _, _, rfl⟩
        simp only [hz] at h
        split at h
        · rename_i he
          injection h with _ h
          exact absurd h he
        · rename_i he
          have he0 : er = 0 := by simpa using he
          subst he0
          split at h
          · injection h with _ h; cases h
          · rename_i hl
            have hl0 : t3.1 = [] := by simpa using hl
            injection h with h _
            subst h
            obtain ⟨L, h1, rfl, h3⟩ := entsR_forth _ hz
            obtain ⟨-, f1⟩ := stp_forth (most := mostS) (s := (P, 0)) (by rw [hx]; simpa using hb)
            obtain ⟨-, f2⟩ := stp_forth (most := mostN) (s := t1) (by rw [hy]; simpa using hb2)
            rw [hx] at f1
            rw [hy] at f2
            dsimp only at f1 f2
            unfold bareI preI
            rw [goOn_step, goOn_l, show (idx0 (bv x)).l = [] from rfl, List.nil_append, h1, show (idx0 (bv x)).step = bv x from rfl, f1, f2, h3, hl0, List.append_nil, List.append_assoc]
            rfl
theorem idxR_forth {bs : List (BitVec 8)} {X : IdxV} (h : idxR bs = (X, 0)) : idxB X = bs := by
  unfold idxR at h
  split at h
  · injection h with _ h; cases h
  · rename_i hl
    split at h
    · injection h with _ h; cases h
    · rename_i hs
      have hs' := Classical.not_not.1 hs
      have e := bodyI_forth h
      unfold idxB
      rw [e, fixed_forth (xs := bs.drop (bs.length - 4)) (by rw [List.length_drop]; omega) hs', List.take_append_drop]
end Go.Proofs.Ytmkljmljbbijeaa

/- Numbers read with no bound and compared behind answer as those read with a bound. -/
import Derived.Test.YtmkljmljbbijeaaIdxBytes
import Derived.Test.YtmkljmljbbijeaaIdx
import Derived.Test.YtmkljmljbbijeaaPiece
namespace Go.Proofs.Ytmkljmljbbijeaa
open Go.RowKit

theorem varN_ne3 {P : List (BitVec 8)} {k k' b' : Nat} {v : BitVec 64} (h : VarH P k 0 mostN v k' b') : b' ≠ 3 := by
  rcases h with ⟨-, j, -, -, -, rfl⟩ | ⟨-, -, h0, ⟨-, h⟩ | rfl⟩
  · decide
  · intro e
    subst e
    unfold rn at h
    have hm : bv (rv (P.drop k)).1 ≤ bv mostN := bv_most _
    rw [if_neg (by omega)] at h
    rcases (rvGo_bounds (P.drop k) 0 0#64).2.1 with h1 | h1 | h1 <;> (unfold rv at h; omega)
  · decide
theorem nm_n3 {e : Nat} (h : e ≠ 3) : nm e = e := by unfold nm; rw [if_neg h]
theorem varN_err {P : List (BitVec 8)} {k k' b' : Nat} {v : BitVec 64} (h : VarH P k 0 mostN v k' b') (hb : b' ≠ 0) (most : BitVec 64) : VarH P k 0 most v k' b' := by
  rcases h with ⟨-, j, -, -, -, h⟩ | ⟨h1, h2, h3, ⟨h0, h⟩ | h⟩
  · exact absurd h hb
  · refine .inr ⟨h1, h2, h3, .inl ⟨rfl, ?_⟩⟩
    unfold rn at h ⊢
    have hm : bv (rv (P.drop k)).1 ≤ bv mostN := bv_most _
    rw [if_neg (by omega)] at h
    rw [if_neg (by omega)]
    exact h
  · exact absurd h.symm hb
theorem varN_ok {P : List (BitVec 8)} {k k' : Nat} {v most : BitVec 64} (h : VarH P k 0 mostN v k' 0) (hv : bv v ≤ bv most) : VarH P k 0 most v k' 0 := by
  rcases h with ⟨h0, j, h1, h2, h3, h4⟩ | ⟨-, -, h, -⟩
  · exact .inl ⟨h0, j, h1, hv, h3, h4⟩
  · exact absurd rfl h
theorem varN_big {P : List (BitVec 8)} {k k' : Nat} {v most : BitVec 64} (h : VarH P k 0 mostN v k' 0) (hv : bv most < bv v) : VarH P k 0 most 0#64 k 3 := by
  rcases h with ⟨h0, j, h1, h2, h3, h4⟩ | ⟨-, -, h, -⟩
  · refine .inr ⟨rfl, rfl, by decide, .inl ⟨rfl, ?_⟩⟩
    unfold rn
    rw [h1, if_pos ⟨rfl, hv⟩]
  · exact absurd rfl h
theorem entN_of (st : Int) (told : Bool) (a : EntV) {P : List (BitVec 8)} {k k1 e1 : Nat} {v1 : BitVec 64} (h1 : VarH P k 0 mostN v1 k1 e1) :
    (e1 ≠ 0 → ∃ k' b', entR st told a (P.drop k, 0) = (⟨0, 0⟩, (P.drop k', b'), e1)) ∧
    (e1 = 0 → (v1 = 0#64 ∨ bv (mostL a) < bv v1) → ∃ k' b', entR st told a (P.drop k, 0) = (⟨0, 0⟩, (P.drop k', b'), 4)) ∧
    (e1 = 0 → v1 ≠ 0#64 → bv v1 ≤ bv (mostL a) → ∀ {v2 : BitVec 64} {k2 e2 : Nat}, VarH P k1 0 mostN v2 k2 e2 →
      (e2 ≠ 0 → ∃ k' b', entR st told a (P.drop k, 0) = (⟨0, 0⟩, (P.drop k', b'), e2)) ∧
      (e2 = 0 → (bv (mostO a) < bv v2 ∨ bv v2 < leastE st told) → ∃ k' b', entR st told a (P.drop k, 0) = (⟨0, 0⟩, (P.drop k', b'), 4)) ∧
      (e2 = 0 → bv v2 ≤ bv (mostO a) → ¬ bv v2 < leastE st told → entR st told a (P.drop k, 0) = (⟨a.lsn + bv v1, a.off + bv v2⟩, (P.drop k2, 0), 0))) := by
  refine ⟨fun he => ?_, fun he hv => ?_, fun he hv hm v2 k2 e2 h2 => ⟨fun he2 => ?_, fun he2 hl => ?_, fun he2 hm2 hl => ?_⟩⟩
  · have h := (entR_of st told a (varN_err h1 he _)).1 he
    rw [nm_n3 (varN_ne3 h1)] at h
    exact ⟨_, _, h⟩
  · subst he
    rcases Int.lt_or_le (bv (mostL a)) (bv v1) with hb | hb
    · exact ⟨_, _, ((entR_of st told a (varN_big h1 hb)).1 (by decide)).trans rfl⟩
    · have hz : v1 = 0#64 := by rcases hv with h | h; exact h; omega
      exact ⟨_, _, (entR_of st told a (varN_ok h1 hb)).2.1 rfl hz⟩
  · subst he
    have h := ((entR_of st told a (varN_ok h1 hm)).2.2 rfl hv (varN_err h2 he2 _)).1 he2
    rw [nm_n3 (varN_ne3 h2)] at h
    exact ⟨_, _, h⟩
  · subst he he2
    rcases Int.lt_or_le (bv (mostO a)) (bv v2) with hb | hb
    · exact ⟨_, _, (((entR_of st told a (varN_ok h1 hm)).2.2 rfl hv (varN_big h2 hb)).1 (by decide)).trans rfl⟩
    · have hz : bv v2 < leastE st told := by rcases hl with h | h; omega; exact h
      exact ⟨_, _, ((entR_of st told a (varN_ok h1 hm)).2.2 rfl hv (varN_ok h2 hb)).2.1 rfl hz⟩
  · subst he he2
    exact ((entR_of st told a (varN_ok h1 hm)).2.2 rfl hv (varN_ok h2 hm2)).2.2 rfl hl
theorem bodyN_of {P : List (BitVec 8)} {k1 e1 : Nat} {v1 : BitVec 64} (h1 : VarH P 0 0 mostN v1 k1 e1) :
    (e1 ≠ 0 → bodyI P = (idx0 0, e1)) ∧ (e1 = 0 → (v1 = 0#64 ∨ 1048576 < bv v1) → bodyI P = (idx0 0, 4)) ∧
    (e1 = 0 → v1 ≠ 0#64 → bv v1 ≤ 1048576 → ∀ {v2 : BitVec 64} {k2 e2 : Nat}, VarH P k1 0 mostN v2 k2 e2 → (e2 ≠ 0 → bodyI P = (idx0 0, e2)) ∧ (e2 = 0 → bodyI P = finR (entsR v2.toNat (idx0 (bv v1)) (P.drop k2, 0)))) := by
  have em : bv mostS = 1048576 := rfl
  refine ⟨fun he => ?_, fun he hv => ?_, fun he hv hm v2 k2 e2 h2 => ⟨fun he2 => ?_, fun he2 => ?_⟩⟩
  · rw [(bodyI_of (varN_err h1 he _)).1 he, nm_n3 (varN_ne3 h1)]
  · subst he
    rcases Int.lt_or_le (bv mostS) (bv v1) with hb | hb
    · exact ((bodyI_of (varN_big h1 hb)).1 (by decide)).trans rfl
    · have hz : v1 = 0#64 := by rcases hv with h | h; exact h; omega
      exact (bodyI_of (varN_ok h1 hb)).2.1 rfl hz
  · subst he
    rw [((bodyI_of (varN_ok h1 (by rw [em]; exact hm))).2.2 rfl hv h2).1 he2, nm_n3 (varN_ne3 h2)]
  · subst he he2
    exact ((bodyI_of (varN_ok h1 (by rw [em]; exact hm))).2.2 rfl hv h2).2 rfl
end Go.Proofs.Ytmkljmljbbijeaa

/-! The document's loading of an index, walked: where its loop stands. -/
namespace Go.Proofs.Ytmkljmljbbijeaa
open Go.RowKit

structure LY (w0 : World) (q yb : Nat) (ai : Option Addr) (ci : Nat) (P : List (BitVec 8)) (k bad : Nat) (X : IdxV) (ao : Option Addr) (n ca : Nat) (W : World) : Prop where
  rd : QAt W q ai ci P k bad
  src : BytesAt w0 ai P
  at' : RefAt W yb yb X ao n ca
  low : Below w0.heap.size w0 W
  lb : w0.heap.size ≤ q
  qy : q < yb
section
variable {w0 W W' : World} {q yb k bad n ca ci : Nat} {P : List (BitVec 8)} {X : IdxV} {ao ai : Option Addr}
theorem LY.now (h : LY w0 q yb ai ci P k bad X ao n ca W) {k' bad' : Nat} (hn : QNow W W' q ai ci P k' bad') : LY w0 q yb ai ci P k' bad' X ao n ca W' :=
  ⟨hn.at', h.src, h.at'.move fun z hz => by
    have hlt : z < W.heap.size ∧ z ≠ q := by
      have := h.qy
      rcases hz with rfl | hz
      · exact ⟨heap_lt h.at'.row, by omega⟩
      · obtain ⟨h1, c, h2⟩ := rows_blk h.at'.own hz
        exact ⟨heap_lt h2, by omega⟩
    exact hn.but.block z hlt.1 hlt.2, h.low.trans ⟨hn.but.os, hn.but.tape, hn.but.output, hn.but.size, fun z hz => hn.but.block z (by have := h.low.size; omega) (by have := h.lb; omega)⟩, h.lb, h.qy⟩
theorem LY.on (h : LY w0 q yb ai ci P k bad X ao n ca W) (hb : Below W.heap.size W W') : LY w0 q yb ai ci P k bad X ao n ca W' :=
  ⟨h.rd.on hb, h.src, h.at'.keep hb, h.low.trans (hb.mono h.low.size), h.lb, h.qy⟩
theorem LY.turn (h : LY w0 q yb ai ci P k bad X ao n ca W) {Y : IdxV} {a' : Option Addr} {n' ca' : Nat} (ht : Turned W W' yb (.slice ao n ca) (.slice a' n' ca')) (hat : RefAt W' yb yb Y a' n' ca') : LY w0 q yb ai ci P k bad Y a' n' ca' W' := by
  have hb := h.qy
  have hlb := h.lb
  have hlow : Below w0.heap.size w0 W' := h.low.trans (ht.below (by omega) (fun j hj => by have := (rows_blk h.at'.own hj).1; omega) h.low.size)
  exact ⟨h.rd.move (ht.far q h.rd.lt (by omega) (fun e => by have := (rows_blk h.at'.own e).1; omega)) (h.src.below hlow), h.src, hat, hlow, h.lb, h.qy⟩
end
/-- What Load answers. -/
def LoadY (w : World) (r : IdxV × Nat) (e : Ending) (w' : World) : Prop :=
  (r.2 ≠ 0 ∧ e = .returned (.tuple #[.pointer none, .int .i64 r.2]) ∧ Below w.heap.size w w') ∨
  (r.2 = 0 ∧ RdOk r.1 ∧ ∃ yb ao n ca, e = .returned (.tuple #[.pointer (some ⟨yb, 0, none⟩), .int .i64 0]) ∧ RefAt w' w.heap.size yb r.1 ao n ca ∧ Below w.heap.size w w')
theorem RefAt.base {w : World} {base yb b2 : Nat} {X : IdxV} {ao : Option Addr} {n ca : Nat} (h : RefAt w base yb X ao n ca) (hb : b2 ≤ base) : RefAt w b2 yb X ao n ca :=
  ⟨h.row, ⟨h.own.1, by
    rcases h.own.2 with h0 | ⟨g, cap, cur, hv, hg, r⟩
    · exact .inl h0
    · exact .inr ⟨g, cap, cur, hv, Nat.le_trans hb hg, r⟩⟩, Nat.le_trans hb h.low⟩
set_option maxRecDepth 100000 in
theorem ref_load_short (ao : Option Addr) (n ca : Nat) (w : World) (hn : n < 4) : Calls Try.prog 41 #[.slice ao n ca] w (LoadY w (idx0 0, 2)) := by
  have hz : (n : Int) < 4 := by omega
  go_enter Try.func41, Try.ntmps41
  go_wp2_with fail
  go_ret2
  exact .inl ⟨by decide, rfl, Below.refl _ _⟩
end Go.Proofs.Ytmkljmljbbijeaa

/-! The document's loading of an index: one round of its loop. -/
namespace Go.Proofs.Ytmkljmljbbijeaa
open Go.RowKit

theorem told_least {st : Int} {told : Bool} {i : Nat} (h : told = decide (0 < i)) {v : Int} (hv : 0 ≤ v) : v < leastE st told ↔ (0 < i ∧ v < st) := by
  unfold leastE
  by_cases hi : 0 < i
  · rw [h, decide_eq_true hi, if_pos rfl]; simp [hi]
  · rw [h, decide_eq_false hi]; simp [hi]; omega
set_option maxRecDepth 100000 in
set_option maxHeartbeats 8000000 in
theorem rl_first (q yb n ca ci k c i : Nat) (P : List (BitVec 8)) (X : IdxV) (ao ai : Option Addr) (F : IdxV × Nat) (w0 w : World) (Q : Exit → Act → World → Prop)
    (u0 u1 u2 u3 u4 u8 u10 u11 u12 u13 u14 u15 u16 u17 u18 u19 u20 u21 u22 u23 u24 u25 u26 u27 u28 u29 u30 u31 u32 u33 u34 u35 u36 u37 u38 u39 u40 u41 u42 u43 u44 u45 u46 u47 u48 u49 u50 u51 u52 u53 u54 u55 u56 u57 u58 u59 u60 u61 u62 u63 u64 u65 u66 u67 u68 u69 u70 u71 u72 u73 u74 u75 u76 u77 u78 u79 u80 u81 u82 u83 u84 u85 u86 u87 u88 u89 u90 u91 u92 u93 u94 u95 u96 u97 u98 u99 u100 u101 u102 u103 u104 u105 u106 u107 u108 u109 u110 u111 u112 u113 u114 u115 u116 u117 u118 u119 u120 u121 u122 u123 u124 u125 u126 u127 u128 u129 u130 u131 u132 u133 u134 u135 u136 u137 u138 u139 u140 u141 u142 u143 u144 u145 u146 u147 u148 u149 u150 u151 u152 u153 u154 u155 u156 u157 u158 u159 u160 u161 u162 u163 u164 u165 u166 u167 u168 u169 : Value)
    (hm : P.length ≤ 140737488355328) (I : Hid (LY w0 q yb ai ci P k 0 X ao n ca w)) (RN : Hid (RunI F P X k 0 0 (c + 1)))
    (hP : ∀ (c : List PanicEntry) (a : Act) (d : Option Tmp) (v : Value) (w : World), Q (.panic c) (a.put d v) w → Q (.panic c) a w)
    (hE : ∀ (wd : World) (er : Nat) (x10 x68 x69 x70 x71 x72 x73 x74 x75 x76 x77 x78 x79 x80 x81 x82 x83 x84 x85 x86 x87 x88 x89 x90 x91 : Value), er ≠ 0 → F.2 = er → Below w0.heap.size w0 wd → Q .ret ⟨#[u0, u1, .pointer none, .int .i64 er, u4, .pointer (some ⟨q, 0, none⟩), .int .u64 X.step, .pointer (some ⟨yb, 0, none⟩), u8, .int .u64 i, x10, u11, u12, u13, u14, u15, u16, u17, u18, u19, u20, u21, u22, u23, u24, u25, u26, u27, u28, u29, u30, u31, u32, u33, u34, u35, u36, u37, u38, u39, u40, u41, u42, u43, u44, u45, u46, u47, u48, u49, u50, u51, u52, u53, u54, u55, u56, u57, u58, u59, u60, u61, u62, u63, u64, u65, u66, u67, x68, x69, x70, x71, x72, x73, x74, x75, x76, x77, x78, x79, x80, x81, x82, x83, x84, x85, x86, x87, x88, x89, x90, x91, u92, u93, u94, u95, u96, u97, u98, u99, u100, u101, u102, u103, u104, u105, u106, u107, u108, u109, u110, u111, u112, u113, u114, u115, u116, u117, u118, u119, u120, u121, u122, u123, u124, u125, u126, u127, u128, u129, u130, u131, u132, u133, u134, u135, u136, u137, u138, u139, u140, u141, u142, u143, u144, u145, u146, u147, u148, u149, u150, u151, u152, u153, u154, u155, u156, u157, u158, u159, u160, u161, u162, u163, u164, u165, u166, u167, u168, u169], []⟩ wd)
    (hG : ∀ (wd : World) (v1 : BitVec 64) (k1 : Nat) (x68 x69 x70 x71 x72 x73 x74 x75 x76 x77 x78 x79 x80 x81 x82 x83 x84 x85 x86 x87 x88 x89 x90 x91 : Value), VarH P k 0 mostN v1 k1 0 → v1 ≠ 0#64 → bv v1 ≤ 9223372036854775807 - X.last.lsn → LY w0 q yb ai ci P k1 0 X ao n ca wd →
      (fromOf Try.f41 22).wp Try.prog Q ⟨#[u0, u1, u2, u3, u4, .pointer (some ⟨q, 0, none⟩), .int .u64 X.step, .pointer (some ⟨yb, 0, none⟩), u8, .int .u64 i, .int .u64 (bv v1), u11, u12, u13, u14, u15, u16, u17, u18, u19, u20, u21, u22, u23, u24, u25, u26, u27, u28, u29, u30, u31, u32, u33, u34, u35, u36, u37, u38, u39, u40, u41, u42, u43, u44, u45, u46, u47, u48, u49, u50, u51, u52, u53, u54, u55, u56, u57, u58, u59, u60, u61, u62, u63, u64, u65, u66, u67, x68, x69, x70, x71, x72, x73, x74, x75, x76, x77, x78, x79, x80, x81, x82, x83, x84, x85, x86, x87, x88, x89, x90, x91, u92, u93, u94, u95, u96, u97, u98, u99, u100, u101, u102, u103, u104, u105, u106, u107, u108, u109, u110, u111, u112, u113, u114, u115, u116, u117, u118, u119, u120, u121, u122, u123, u124, u125, u126, u127, u128, u129, u130, u131, u132, u133, u134, u135, u136, u137, u138, u139, u140, u141, u142, u143, u144, u145, u146, u147, u148, u149, u150, u151, u152, u153, u154, u155, u156, u157, u158, u159, u160, u161, u162, u163, u164, u165, u166, u167, u168, u169], []⟩ wd) :
    (fromOf Try.f41 17).wp Try.prog Q ⟨#[u0, u1, u2, u3, u4, .pointer (some ⟨q, 0, none⟩), .int .u64 X.step, .pointer (some ⟨yb, 0, none⟩), u8, .int .u64 i, u10, u11, u12, u13, u14, u15, u16, u17, u18, u19, u20, u21, u22, u23, u24, u25, u26, u27, u28, u29, u30, u31, u32, u33, u34, u35, u36, u37, u38, u39, u40, u41, u42, u43, u44, u45, u46, u47, u48, u49, u50, u51, u52, u53, u54, u55, u56, u57, u58, u59, u60, u61, u62, u63, u64, u65, u66, u67, u68, u69, u70, u71, u72, u73, u74, u75, u76, u77, u78, u79, u80, u81, u82, u83, u84, u85, u86, u87, u88, u89, u90, u91, u92, u93, u94, u95, u96, u97, u98, u99, u100, u101, u102, u103, u104, u105, u106, u107, u108, u109, u110, u111, u112, u113, u114, u115, u116, u117, u118, u119, u120, u121, u122, u123, u124, u125, u126, u127, u128, u129, u130, u131, u132, u133, u134, u135, u136, u137, u138, u139, u140, u141, u142, u143, u144, u145, u146, u147, u148, u149, u150, u151, u152, u153, u154, u155, u156, u157, u158, u159, u160, u161, u162, u163, u164, u165, u166, u167, u168, u169], []⟩ w := by
  have HM := Lib.hid hm
  have HP := Lib.hid hP
  have HE := Lib.hid hE
  have HG := Lib.hid hG
  obtain ⟨-, hx, -⟩ := RN.out.on rfl
  have HX := Lib.hid hx
  have l0 := HX.out.ok.lsn.1
  have l1 := HX.out.ok.lsn.2
  obtain ⟨st, L, tb, ⟨ll, lo⟩⟩ := X
  dsimp only at l0 l1
  have z1 : IntKind.i64.wrap (9223372036854775807 - ll) = 9223372036854775807 - ll := IntWalk.i64_in _ (by omega)
  have z2 : IntKind.u64.wrap (9223372036854775807 - ll) = 9223372036854775807 - ll := IntWalk.u64_in _ (by omega)
  obtain ⟨v1, k1, e1, hv1⟩ := varH_some P k 0 mostN
  have V1 := Lib.hid hv1
  have R1 := Lib.hid (entN_of st tb ⟨ll, lo⟩ hv1)
  have ML := Lib.hid (show bv (mostL ⟨ll, lo⟩) = 9223372036854775807 - ll from bv_ofInt (by dsimp only; omega) (by dsimp only; omega))
  have ND := Lib.hid (show ∀ (er k' b' : Nat), er ≠ 0 → entR st tb ⟨ll, lo⟩ (P.drop k, 0) = (⟨0, 0⟩, (P.drop k', b'), er) → F.2 = er from fun er k' b' h0 h => (RN.out.next h (fun e => absurd e h0)).off h0)
  clear hm hP hE hG hx hv1 l0 l1
  conv => arg 2; whnf
  go_wp2_with fail
  refine (q_varint q ai ci P k 0 mostN w I.out.rd HM.out v1 k1 e1 V1.out).mono ?_
  rintro x w1 ⟨rfl, hN⟩
  have I1 := Lib.hid (I.out.now hN)
  clear hN
  have q2 := I1.out.rd.at2
  have c2 := cell_of_row _ _ 2 _ _ _ I1.out.at'.row
  dsimp only at c2
  try dsimp only
  by_cases he1 : e1 = 0
  · subst he1
    simp only [Int.natCast_zero] at q2
    have y0 := bv_nonneg v1
    by_cases hz : bv v1 < 1
    · have t1 : decide (bv v1 < 1) = true := decide_eq_true hz
      obtain ⟨k', b', h⟩ := R1.out.2.1 rfl (.inl (bv_zero.2 (by omega)))
      have FF := Lib.hid (ND.out 4 k' b' (by decide) h)
      clear hz h y0
      go_wp2_with fail
      exact HE.out _ 4 _ _ _ _ _ _ _ _ _ _ _ _ _ _ _ _ _ _ _ _ _ _ _ _ _ (by decide) FF.out I1.out.low
    · have t1 : decide (bv v1 < 1) = false := decide_eq_false hz
      by_cases hb : 9223372036854775807 - ll < bv v1
      · have t2 : decide (9223372036854775807 - ll < bv v1) = true := decide_eq_true hb
        obtain ⟨k', b', h⟩ := R1.out.2.1 rfl (.inr (by rw [ML.out]; exact hb))
        have FF := Lib.hid (ND.out 4 k' b' (by decide) h)
        clear hz hb h y0
        go_wp2_with fail
        exact HE.out _ 4 _ _ _ _ _ _ _ _ _ _ _ _ _ _ _ _ _ _ _ _ _ _ _ _ _ (by decide) FF.out I1.out.low
      · have t2 : decide (9223372036854775807 - ll < bv v1) = false := decide_eq_false hb
        have GO := Lib.hid (show v1 ≠ 0#64 ∧ bv v1 ≤ 9223372036854775807 - ll from ⟨fun e => hz (by rw [bv_zero.1 e]; decide), by omega⟩)
        clear hz hb y0
        go_upto_if 91 with (fail)
        iterate 4 go_step
        exact HG.out _ _ _ _ _ _ _ _ _ _ _ _ _ _ _ _ _ _ _ _ _ _ _ _ _ _ _ V1.out GO.out.1 GO.out.2 I1.out
  · obtain ⟨k', b', h⟩ := R1.out.1 he1
    have FF := Lib.hid (ND.out e1 k' b' he1 h)
    have H0 := Lib.hid he1
    have t2 : ((e1 : Int) != 0) = true := by simp; omega
    clear h he1
    go_wp2_with fail
    go_quiet (fail)
    go_wp2_with fail
    exact HE.out _ e1 _ _ _ _ _ _ _ _ _ _ _ _ _ _ _ _ _ _ _ _ _ _ _ _ _ H0.out FF.out (below_trans I1.out.low (below_drewN _ _))
end Go.Proofs.Ytmkljmljbbijeaa

/-! The document's loading of an index: a round's second reading. -/
namespace Go.Proofs.Ytmkljmljbbijeaa
open Go.RowKit

set_option maxRecDepth 100000 in
set_option maxHeartbeats 8000000 in
theorem rl_second (q yb n ca ci k k0 c i : Nat) (v1 : BitVec 64) (P : List (BitVec 8)) (X : IdxV) (ao ai : Option Addr) (F : IdxV × Nat) (w0 w : World) (Q : Exit → Act → World → Prop)
    (u0 u1 u2 u3 u4 u8 u11 u12 u13 u14 u15 u16 u17 u18 u19 u20 u21 u22 u23 u24 u25 u26 u27 u28 u29 u30 u31 u32 u33 u34 u35 u36 u37 u38 u39 u40 u41 u42 u43 u44 u45 u46 u47 u48 u49 u50 u51 u52 u53 u54 u55 u56 u57 u58 u59 u60 u61 u62 u63 u64 u65 u66 u67 u68 u69 u70 u71 u72 u73 u74 u75 u76 u77 u78 u79 u80 u81 u82 u83 u84 u85 u86 u87 u88 u89 u90 u91 u92 u93 u94 u95 u96 u97 u98 u99 u100 u101 u102 u103 u104 u105 u106 u107 u108 u109 u110 u111 u112 u113 u114 u115 u116 u117 u118 u119 u120 u121 u122 u123 u124 u125 u126 u127 u128 u129 u130 u131 u132 u133 u134 u135 u136 u137 u138 u139 u140 u141 u142 u143 u144 u145 u146 u147 u148 u149 u150 u151 u152 u153 u154 u155 u156 u157 u158 u159 u160 u161 u162 u163 u164 u165 u166 u167 u168 u169 : Value)
    (hm : P.length ≤ 140737488355328) (I : Hid (LY w0 q yb ai ci P k 0 X ao n ca w)) (RN : Hid (RunI F P X k0 0 0 (c + 1)))
    (V1 : Hid (VarH P k0 0 mostN v1 k 0)) (HV : Hid (v1 ≠ 0#64 ∧ bv v1 ≤ 9223372036854775807 - X.last.lsn)) (ht : X.told = decide (0 < i))
    (hE : ∀ (wd : World) (er : Nat) (x11 x92 x93 x94 x95 x96 x97 x98 x99 x100 x101 x102 x103 x104 x105 x106 x107 x108 x109 x110 x111 x112 x113 x114 x115 x116 x117 x118 x119 x120 : Value), er ≠ 0 → F.2 = er → Below w0.heap.size w0 wd → Q .ret ⟨#[u0, u1, .pointer none, .int .i64 er, u4, .pointer (some ⟨q, 0, none⟩), .int .u64 X.step, .pointer (some ⟨yb, 0, none⟩), u8, .int .u64 i, .int .u64 (bv v1), x11, u12, u13, u14, u15, u16, u17, u18, u19, u20, u21, u22, u23, u24, u25, u26, u27, u28, u29, u30, u31, u32, u33, u34, u35, u36, u37, u38, u39, u40, u41, u42, u43, u44, u45, u46, u47, u48, u49, u50, u51, u52, u53, u54, u55, u56, u57, u58, u59, u60, u61, u62, u63, u64, u65, u66, u67, u68, u69, u70, u71, u72, u73, u74, u75, u76, u77, u78, u79, u80, u81, u82, u83, u84, u85, u86, u87, u88, u89, u90, u91, x92, x93, x94, x95, x96, x97, x98, x99, x100, x101, x102, x103, x104, x105, x106, x107, x108, x109, x110, x111, x112, x113, x114, x115, x116, x117, x118, x119, x120, u121, u122, u123, u124, u125, u126, u127, u128, u129, u130, u131, u132, u133, u134, u135, u136, u137, u138, u139, u140, u141, u142, u143, u144, u145, u146, u147, u148, u149, u150, u151, u152, u153, u154, u155, u156, u157, u158, u159, u160, u161, u162, u163, u164, u165, u166, u167, u168, u169], []⟩ wd)
    (hG : ∀ (wd : World) (v2 : BitVec 64) (k2 : Nat) (x92 x93 x94 x95 x96 x97 x98 x99 x100 x101 x102 x103 x104 x105 x106 x107 x108 x109 x110 x111 x112 x113 x114 x115 x116 x117 x118 x119 x120 : Value), entR X.step X.told X.last (P.drop k0, 0) = (⟨X.last.lsn + bv v1, X.last.off + bv v2⟩, (P.drop k2, 0), 0) → bv v2 ≤ 2147483647 - X.last.off → LY w0 q yb ai ci P k2 0 X ao n ca wd →
      (fromOf Try.f41 27).wp Try.prog Q ⟨#[u0, u1, u2, u3, u4, .pointer (some ⟨q, 0, none⟩), .int .u64 X.step, .pointer (some ⟨yb, 0, none⟩), u8, .int .u64 i, .int .u64 (bv v1), .int .u64 (bv v2), u12, u13, u14, u15, u16, u17, u18, u19, u20, u21, u22, u23, u24, u25, u26, u27, u28, u29, u30, u31, u32, u33, u34, u35, u36, u37, u38, u39, u40, u41, u42, u43, u44, u45, u46, u47, u48, u49, u50, u51, u52, u53, u54, u55, u56, u57, u58, u59, u60, u61, u62, u63, u64, u65, u66, u67, u68, u69, u70, u71, u72, u73, u74, u75, u76, u77, u78, u79, u80, u81, u82, u83, u84, u85, u86, u87, u88, u89, u90, u91, x92, x93, x94, x95, x96, x97, x98, x99, x100, x101, x102, x103, x104, x105, x106, x107, x108, x109, x110, x111, x112, x113, x114, x115, x116, x117, x118, x119, x120, u121, u122, u123, u124, u125, u126, u127, u128, u129, u130, u131, u132, u133, u134, u135, u136, u137, u138, u139, u140, u141, u142, u143, u144, u145, u146, u147, u148, u149, u150, u151, u152, u153, u154, u155, u156, u157, u158, u159, u160, u161, u162, u163, u164, u165, u166, u167, u168, u169], []⟩ wd) :
    (fromOf Try.f41 22).wp Try.prog Q ⟨#[u0, u1, u2, u3, u4, .pointer (some ⟨q, 0, none⟩), .int .u64 X.step, .pointer (some ⟨yb, 0, none⟩), u8, .int .u64 i, .int .u64 (bv v1), u11, u12, u13, u14, u15, u16, u17, u18, u19, u20, u21, u22, u23, u24, u25, u26, u27, u28, u29, u30, u31, u32, u33, u34, u35, u36, u37, u38, u39, u40, u41, u42, u43, u44, u45, u46, u47, u48, u49, u50, u51, u52, u53, u54, u55, u56, u57, u58, u59, u60, u61, u62, u63, u64, u65, u66, u67, u68, u69, u70, u71, u72, u73, u74, u75, u76, u77, u78, u79, u80, u81, u82, u83, u84, u85, u86, u87, u88, u89, u90, u91, u92, u93, u94, u95, u96, u97, u98, u99, u100, u101, u102, u103, u104, u105, u106, u107, u108, u109, u110, u111, u112, u113, u114, u115, u116, u117, u118, u119, u120, u121, u122, u123, u124, u125, u126, u127, u128, u129, u130, u131, u132, u133, u134, u135, u136, u137, u138, u139, u140, u141, u142, u143, u144, u145, u146, u147, u148, u149, u150, u151, u152, u153, u154, u155, u156, u157, u158, u159, u160, u161, u162, u163, u164, u165, u166, u167, u168, u169], []⟩ w := by
  have HM := Lib.hid hm
  have HE := Lib.hid hE
  have HG := Lib.hid hG
  obtain ⟨-, hx, -⟩ := RN.out.on rfl
  have HX := Lib.hid hx
  have l0 := HX.out.ok.lsn.1
  have l1 := HX.out.ok.lsn.2
  have o0 := HX.out.ok.off.1
  have o1 := HX.out.ok.off.2
  obtain ⟨st, L, tb, ⟨ll, lo⟩⟩ := X
  dsimp only at l0 l1 o0 o1
  have z1 : IntKind.i64.wrap (2147483647 - lo) = 2147483647 - lo := IntWalk.i64_in _ (by omega)
  have z2 : IntKind.u64.wrap (2147483647 - lo) = 2147483647 - lo := IntWalk.u64_in _ (by omega)
  obtain ⟨v2, k2, e2, hv2⟩ := varH_some P k 0 mostN
  have V2 := Lib.hid hv2
  have ML := Lib.hid (show bv (mostL ⟨ll, lo⟩) = 9223372036854775807 - ll from bv_ofInt (by dsimp only; omega) (by dsimp only; omega))
  have MO := Lib.hid (show bv (mostO ⟨ll, lo⟩) = 2147483647 - lo from bv_ofInt (by dsimp only; omega) (by dsimp only; omega))
  have R2 := Lib.hid ((entN_of st tb ⟨ll, lo⟩ V1.out).2.2 rfl HV.out.1 (by rw [ML.out]; exact HV.out.2) hv2)
  have TL := Lib.hid (told_least (st := st) ht (bv_nonneg v2))
  have ND := Lib.hid (show ∀ (er k' b' : Nat), er ≠ 0 → entR st tb ⟨ll, lo⟩ (P.drop k0, 0) = (⟨0, 0⟩, (P.drop k', b'), er) → F.2 = er from fun er k' b' h0 h => (RN.out.next h (fun e => absurd e h0)).off h0)
  clear hm hE hG hx hv2 l0 l1 o0 o1 ht
  conv => arg 2; whnf
  go_wp2_with fail
  refine (q_varint q ai ci P k 0 mostN w I.out.rd HM.out v2 k2 e2 V2.out).mono ?_
  rintro x w1 ⟨rfl, hN⟩
  have I1 := Lib.hid (I.out.now hN)
  clear hN
  have q2 := I1.out.rd.at2
  have c3 := cell_of_row _ _ 3 _ _ _ I1.out.at'.row
  dsimp only at c3
  try dsimp only
  by_cases he2 : e2 = 0
  · subst he2
    simp only [Int.natCast_zero] at q2
    by_cases hb : 2147483647 - lo < bv v2
    · have t1 : decide (2147483647 - lo < bv v2) = true := decide_eq_true hb
      obtain ⟨k', b', h⟩ := R2.out.2.1 rfl (.inl (by rw [MO.out]; exact hb))
      have FF := Lib.hid (ND.out 4 k' b' (by decide) h)
      clear hb h
      go_wp2_with fail
      exact HE.out _ 4 _ _ _ _ _ _ _ _ _ _ _ _ _ _ _ _ _ _ _ _ _ _ _ _ _ _ _ _ _ _ (by decide) FF.out I1.out.low
    · have t1 : decide (2147483647 - lo < bv v2) = false := decide_eq_false hb
      have HB := Lib.hid (show bv v2 ≤ 2147483647 - lo by omega)
      clear hb
      by_cases hi : 0 < i
      · have t2 : 0 < i := hi
        have HI := Lib.hid hi
        clear hi
        by_cases hs : bv v2 < st
        · have t3 : decide (bv v2 < st) = true := decide_eq_true hs
          obtain ⟨k', b', h⟩ := R2.out.2.1 rfl (.inr (TL.out.2 ⟨HI.out, hs⟩))
          have FF := Lib.hid (ND.out 4 k' b' (by decide) h)
          clear hs h
          go_wp2_with fail
          exact HE.out _ 4 _ _ _ _ _ _ _ _ _ _ _ _ _ _ _ _ _ _ _ _ _ _ _ _ _ _ _ _ _ _ (by decide) FF.out I1.out.low
        · have t3 : decide (bv v2 < st) = false := decide_eq_false hs
          have hnl : ¬ bv v2 < leastE st tb := fun h => hs (TL.out.1 h).2
          have FF := Lib.hid (R2.out.2.2 rfl (by rw [MO.out]; exact HB.out) (by first | exact hnl | omega))
          clear hs hnl
          go_upto_if 120 with (fail)
          iterate 4 go_step
          exact HG.out _ _ _ _ _ _ _ _ _ _ _ _ _ _ _ _ _ _ _ _ _ _ _ _ _ _ _ _ _ _ _ _ FF.out HB.out I1.out
      · obtain rfl : i = 0 := by omega
        have hnl : ¬ bv v2 < leastE st tb := fun h => hi (TL.out.1 h).1
        have FF := Lib.hid (R2.out.2.2 rfl (by rw [MO.out]; exact HB.out) (by first | exact hnl | omega))
        clear hi hnl
        go_upto_if 120 with (fail)
        iterate 4 go_step
        exact HG.out _ _ _ _ _ _ _ _ _ _ _ _ _ _ _ _ _ _ _ _ _ _ _ _ _ _ _ _ _ _ _ _ FF.out HB.out I1.out
  · obtain ⟨k', b', h⟩ := R2.out.1 he2
    have FF := Lib.hid (ND.out e2 k' b' he2 h)
    have H0 := Lib.hid he2
    have t2 : ((e2 : Int) != 0) = true := by simp; omega
    clear h he2
    go_wp2_with fail
    go_quiet (fail)
    go_wp2_with fail
    exact HE.out _ e2 _ _ _ _ _ _ _ _ _ _ _ _ _ _ _ _ _ _ _ _ _ _ _ _ _ _ _ _ _ _ H0.out FF.out (below_trans I1.out.low (below_drewN _ _))
end Go.Proofs.Ytmkljmljbbijeaa

/-! The document's loading of an index: a round's end: the entry is laid down. -/
namespace Go.Proofs.Ytmkljmljbbijeaa
open Go.RowKit

set_option maxRecDepth 100000 in
set_option maxHeartbeats 8000000 in
theorem rl_third (q yb n ca ci k i : Nat) (v1 v2 : BitVec 64) (P : List (BitVec 8)) (X : IdxV) (ao ai : Option Addr) (w0 w : World) (Q : Exit → Act → World → Prop)
    (u0 u1 u2 u3 u4 u8 u12 u13 u14 u15 u16 u17 u18 u19 u20 u21 u22 u23 u24 u25 u26 u27 u28 u29 u30 u31 u32 u33 u34 u35 u36 u37 u38 u39 u40 u41 u42 u43 u44 u45 u46 u47 u48 u49 u50 u51 u52 u53 u54 u55 u56 u57 u58 u59 u60 u61 u62 u63 u64 u65 u66 u67 u68 u69 u70 u71 u72 u73 u74 u75 u76 u77 u78 u79 u80 u81 u82 u83 u84 u85 u86 u87 u88 u89 u90 u91 u92 u93 u94 u95 u96 u97 u98 u99 u100 u101 u102 u103 u104 u105 u106 u107 u108 u109 u110 u111 u112 u113 u114 u115 u116 u117 u118 u119 u120 u121 u122 u123 u124 u125 u126 u127 u128 u129 u130 u131 u132 u133 u134 u135 u136 u137 u138 u139 u140 u141 u142 u143 u144 u145 u146 u147 u148 u149 u150 u151 u152 u153 u154 u155 u156 u157 u158 u159 u160 u161 u162 u163 u164 u165 u166 u167 u168 u169 : Value)
    (I : Hid (LY w0 q yb ai ci P k 0 X ao n ca w)) (HX : Hid (RdOk X))
    (h1 : bv v1 ≤ 9223372036854775807 - X.last.lsn) (h2 : bv v2 ≤ 2147483647 - X.last.off)
    (hP : ∀ (c : List PanicEntry) (a : Act) (d : Option Tmp) (v : Value) (w : World), Q (.panic c) (a.put d v) w → Q (.panic c) a w)
    (hG : ∀ (wd : World) (ao' : Option Addr) (n' ca' : Nat) (x121 x122 x123 x124 x125 x126 x127 x128 x129 x130 x131 x132 x133 x134 x135 x136 x137 x138 x139 x140 x141 x142 x143 x144 x145 x146 x147 x148 x149 x150 x151 x152 x153 : Value), LY w0 q yb ai ci P k 0 (pushV X ⟨X.last.lsn + bv v1, X.last.off + bv v2⟩) ao' n' ca' wd →
      Q .normal ⟨#[u0, u1, u2, u3, u4, .pointer (some ⟨q, 0, none⟩), .int .u64 X.step, .pointer (some ⟨yb, 0, none⟩), u8, .int .u64 i, .int .u64 (bv v1), .int .u64 (bv v2), u12, u13, u14, u15, u16, u17, u18, u19, u20, u21, u22, u23, u24, u25, u26, u27, u28, u29, u30, u31, u32, u33, u34, u35, u36, u37, u38, u39, u40, u41, u42, u43, u44, u45, u46, u47, u48, u49, u50, u51, u52, u53, u54, u55, u56, u57, u58, u59, u60, u61, u62, u63, u64, u65, u66, u67, u68, u69, u70, u71, u72, u73, u74, u75, u76, u77, u78, u79, u80, u81, u82, u83, u84, u85, u86, u87, u88, u89, u90, u91, u92, u93, u94, u95, u96, u97, u98, u99, u100, u101, u102, u103, u104, u105, u106, u107, u108, u109, u110, u111, u112, u113, u114, u115, u116, u117, u118, u119, u120, x121, x122, x123, x124, x125, x126, x127, x128, x129, x130, x131, x132, x133, x134, x135, x136, x137, x138, x139, x140, x141, x142, x143, x144, x145, x146, x147, x148, x149, x150, x151, x152, x153, u154, u155, u156, u157, u158, u159, u160, u161, u162, u163, u164, u165, u166, u167, u168, u169], []⟩ wd) :
    (fromOf Try.f41 27).wp Try.prog Q ⟨#[u0, u1, u2, u3, u4, .pointer (some ⟨q, 0, none⟩), .int .u64 X.step, .pointer (some ⟨yb, 0, none⟩), u8, .int .u64 i, .int .u64 (bv v1), .int .u64 (bv v2), u12, u13, u14, u15, u16, u17, u18, u19, u20, u21, u22, u23, u24, u25, u26, u27, u28, u29, u30, u31, u32, u33, u34, u35, u36, u37, u38, u39, u40, u41, u42, u43, u44, u45, u46, u47, u48, u49, u50, u51, u52, u53, u54, u55, u56, u57, u58, u59, u60, u61, u62, u63, u64, u65, u66, u67, u68, u69, u70, u71, u72, u73, u74, u75, u76, u77, u78, u79, u80, u81, u82, u83, u84, u85, u86, u87, u88, u89, u90, u91, u92, u93, u94, u95, u96, u97, u98, u99, u100, u101, u102, u103, u104, u105, u106, u107, u108, u109, u110, u111, u112, u113, u114, u115, u116, u117, u118, u119, u120, u121, u122, u123, u124, u125, u126, u127, u128, u129, u130, u131, u132, u133, u134, u135, u136, u137, u138, u139, u140, u141, u142, u143, u144, u145, u146, u147, u148, u149, u150, u151, u152, u153, u154, u155, u156, u157, u158, u159, u160, u161, u162, u163, u164, u165, u166, u167, u168, u169], []⟩ w := by
  have HP := Lib.hid hP
  have HG := Lib.hid hG
  have l0 := HX.out.ok.lsn.1
  have l1 := HX.out.ok.lsn.2
  have o0 := HX.out.ok.off.1
  have o1 := HX.out.ok.off.2
  have LEN := Lib.hid HX.out.ok.len
  obtain ⟨st, L, tb, ⟨ll, lo⟩⟩ := X
  dsimp only at l0 l1 o0 o1 h1 h2
  have y1 := i64_of_bv v1 (by omega)
  have y2 := i64_of_bv v2 (by omega)
  have p1 := bv_nonneg v1
  have p2 := bv_nonneg v2
  have y5 : IntKind.i64.wrap (ll + bv v1) = ll + bv v1 := IntWalk.i64_in _ (by omega)
  have y6 : IntKind.i64.wrap (lo + bv v2) = lo + bv v2 := IntWalk.i64_in _ (by omega)
  obtain ⟨lsn, hlsn⟩ : ∃ z, ll + bv v1 = z := ⟨_, rfl⟩
  obtain ⟨off, hoff⟩ : ∃ z, lo + bv v2 = z := ⟨_, rfl⟩
  dsimp only at HG
  rw [hlsn, hoff] at HG
  rw [hlsn] at y5
  rw [hoff] at y6
  have HLL : Hid ((⟨st, L, true, ⟨lsn, off⟩⟩ : IdxV).l.length ≤ 8796093022207) := Lib.hid (by have := LEN.out; dsimp only at *; omega)
  clear hP hG h1 h2 l0 l1 o0 o1 p1 p2
  conv => arg 2; whnf
  go_wp2_with fail
  have q1 : ∀ p : In (RefR yb ll lo (.slice ao n ca)), p.w.cell? ⟨yb, 2, none⟩ = some (.int .i64 ll) := fun p => p.h.x2
  have q2 : ∀ p : In (RefR yb ll lo (.slice ao n ca)), p.w.cell? ⟨yb, 3, none⟩ = some (.int .i64 lo) := fun p => p.h.x3
  have I0 := Lib.hid (I.out.on (below_drew w))
  refine wp_region_mixed_tail [0, 1, 2, 3, 4, 5, 6, 7, 8, 9, 10, 11, 12, 13, 14, 15, 16, 17, 18, 19] 20 (RefR yb ll lo (.slice ao n ca)) (by kernel_rfl) (by kernel_rfl) (fun c a d v w h => HP.out c a d v w h) (refR_row I0.out.at'.row) ?_
  intro hne
  simp only [pick, List.map_cons, List.map_nil, List.getD_cons_zero, List.getD_cons_succ, List.drop_succ_cons, List.drop_zero]
  refine wpMix_reads 17 _ (by kernel_rfl) ?_
  simp only [List.take_succ_cons, List.take_zero, List.drop_succ_cons, List.drop_zero]
  repeat (go_big_quiet_step (fail))
  refine wpQuiet_nil ?_
  refine wpMix_act rfl ?_ rfl
  go_wp2_with fail
  refine ⟨⟨⟨_, refR_row I0.out.at'.row⟩, rfl⟩, ?_⟩
  refine wpMix_reads 2 _ (by kernel_rfl) ?_
  simp only [List.take_succ_cons, List.take_zero, List.drop_succ_cons, List.drop_zero]
  repeat (go_big_quiet_step (fail))
  refine wpQuiet_nil ?_
  refine wpMix_nil ?_
  clear hne q1 q2
  change wpList _ _ _ _ _ _
  have x2 := cell_of_row _ _ 2 _ _ _ I.out.at'.row
  have x3 := cell_of_row _ _ 3 _ _ _ I.out.at'.row
  have f2 := frozen_of_row _ _ 2 _ _ I.out.at'.row
  have f3 := frozen_of_row _ _ 3 _ _ I.out.at'.row
  have R5 := Lib.hid (ref_last I.out.at' true ⟨lsn, off⟩)
  dsimp only at x2 x3
  go_wp2_with fail
  have HQ := Lib.hid (show RefAt (((w.setCell ⟨yb, 2, none⟩ (.int .i64 lsn)).setCell ⟨yb, 3, none⟩ (.int .i64 off)).drew) yb yb ⟨st, L, true, ⟨lsn, off⟩⟩ ao n ca from R5.out.1.keep (below_drew _))
  have TQ := Lib.hid (show Turned w (((w.setCell ⟨yb, 2, none⟩ (.int .i64 lsn)).setCell ⟨yb, 3, none⟩ (.int .i64 off)).drew) yb (.slice ao n ca) (.slice ao n ca) from R5.out.2.trans (Turned.of_below _ _ (below_drew _)))
  obtain ⟨w7, hw7⟩ : ∃ w7, (((w.setCell ⟨yb, 2, none⟩ (.int .i64 lsn)).setCell ⟨yb, 3, none⟩ (.int .i64 off)).drew) = w7 := ⟨_, rfl⟩
  rw [hw7] at HQ TQ
  rw [hw7]
  have H7 := HQ
  have HB7 := Lib.hid (show yb ≤ w7.heap.size from Nat.le_of_lt (heap_lt HQ.out.row))
  clear hw7 x2 x3 f2 f3 R5 HQ
  have q0 : ∀ p : In (RefR yb lsn off (.slice ao n ca)), p.w.cell? ⟨yb, 1, none⟩ = some (.slice ao n ca) := fun p => p.h.x1
  have q1 : ∀ p : In (RefR yb lsn off (.slice ao n ca)), p.w.cell? ⟨yb, 2, none⟩ = some (.int .i64 lsn) := fun p => p.h.x2
  have q2 : ∀ p : In (RefR yb lsn off (.slice ao n ca)), p.w.cell? ⟨yb, 3, none⟩ = some (.int .i64 off) := fun p => p.h.x3
  refine wp_region_mixed_tail [0, 1, 2, 3, 4, 5, 6, 7, 8, 9, 10, 11, 12] 13 (RefR yb lsn off (.slice ao n ca)) (by kernel_rfl) (by kernel_rfl) (fun c a d v w h => HP.out c a d v w h) ((refR_row H7.out.row).below (below_drew _)) ?_
  intro hne
  simp only [pick, List.map_cons, List.map_nil, List.getD_cons_zero, List.getD_cons_succ, List.drop_succ_cons, List.drop_zero]
  refine wpMix_reads 9 _ (by kernel_rfl) ?_
  simp only [List.take_succ_cons, List.take_zero, List.drop_succ_cons, List.drop_zero]
  repeat (go_big_quiet_step (fail))
  refine wpQuiet_nil ?_
  refine wpMix_act rfl ?_ rfl
  go_wp2_with fail
  have B8 := Lib.hid (below_trans (below_drew w7) (below_alloc w7.drew (.cells #[.int .i64 lsn, .int .i64 off] 64)))
  have NC := Lib.hid (ent_new w7.drew ⟨lsn, off⟩)
  have H8 := Lib.hid (H7.out.keep B8.out)
  refine ⟨⟨⟨_, refR_row H8.out.row⟩, rfl⟩, ?_⟩
  refine wpMix_act rfl ?_ rfl
  go_wp2_with (refine wpList_append_ent (o := ⟨some 151, _, _, _, _, _⟩) rfl _ _ rfl yb (.slice ao n ca) _ rfl H8.out.own _ ⟨lsn, off⟩ rfl NC.out HLL.out (Nat.le_trans HB7.out B8.out.size) ?_)
  intro v3 w3 ho3 hg3 hw3
  obtain ⟨a3, c3, hv3, -⟩ := (HeldE.of_own ho3).shape
  obtain ⟨n3, hn3⟩ : ∃ n3, ((⟨st, L, true, ⟨lsn, off⟩⟩ : IdxV).l ++ [(⟨lsn, off⟩ : EntV)]).length = n3 := ⟨_, rfl⟩
  rw [show ((⟨st, L, true, ⟨lsn, off⟩⟩ : IdxV).l ++ [(⟨lsn, off⟩ : EntV)]).length = n3 from hn3] at hv3
  subst hv3
  have P3 := Lib.hid (ref_push B8.out H8.out ho3 hg3 (fun j hj => (hw3 j hj).imp id fun h => by omega))
  have k1 := cell_of_row _ _ 1 _ _ _ P3.out.row
  have f1 := frozen_of_row _ _ 1 _ _ P3.out.row
  clear ho3 hg3 hw3 hn3
  go_wp2_with fail
  refine ⟨⟨⟨_, refR_row P3.out.row⟩, rfl⟩, ?_⟩
  refine wpMix_reads 2 _ (by kernel_rfl) ?_
  simp only [List.take_succ_cons, List.take_zero, List.drop_succ_cons, List.drop_zero]
  repeat (go_big_quiet_step (fail))
  refine wpQuiet_nil ?_
  refine wpMix_nil ?_
  clear hne q0 q1 q2
  change wpList _ _ _ _ _ _
  go_wp2_with fail
  exact HG.out _ a3 n3 c3 _ _ _ _ _ _ _ _ _ _ _ _ _ _ _ _ _ _ _ _ _ _ _ _ _ _ _ _ _ _ _ _ _ (I.out.turn (TQ.out.trans P3.out.turned) P3.out.at')
end Go.Proofs.Ytmkljmljbbijeaa

/-! The document's loading of an index, walked. -/
namespace Go.Proofs.Ytmkljmljbbijeaa
open Go.RowKit

theorem qat_zero {W : World} {q cap : Nat} {gb off : Nat} {bs : List (BitVec 8)} {n : Nat} {T : TypeId} (hn : bs.length = n) (h : W.heap[q]? = some (.cells #[.slice (some ⟨gb, off, none⟩) n cap, .int .i64 0, .int .i64 0] T (0, 0))) (hb : BytesAt W (some ⟨gb, off, none⟩) bs) (hc : n ≤ cap) (hm : cap ≤ 9223372036854775807) (hq : gb ≠ q) : QAt W q (some ⟨gb, off, none⟩) cap bs 0 0 := by
  subst hn
  exact ⟨cell_of_row _ _ 0 _ _ _ h, cell_of_row _ _ 1 _ _ _ h, cell_of_row _ _ 2 _ _ _ h, frozen_of_row _ _ 1 _ _ h, frozen_of_row _ _ 2 _ _ h, Nat.zero_le _, hb, (fun e => by cases e), hc, hm, fun g o e _ => by injection e with e; injection e with e; rw [← e]; exact hq⟩
theorem sum_is {D : List (BitVec 8)} (hD : D.length = 4) (s : BitVec 32) : (leB D = s.setWidth 64) ↔ ((leB D).setWidth 32 = s) := by
  have h := leN_lt D
  rw [hD] at h
  have h2 := leB_lt (xs := D) (by omega)
  have e : (256 : Nat) ^ 4 = 4294967296 := rfl
  constructor
  · intro e2
    rw [e2]
    apply BitVec.eq_of_toNat_eq
    rw [BitVec.toNat_setWidth, BitVec.toNat_setWidth]
    have := s.isLt
    omega
  · intro e2
    rw [← e2]
    apply BitVec.eq_of_toNat_eq
    rw [BitVec.toNat_setWidth, BitVec.toNat_setWidth]
    omega
theorem ref_sum_of (ao : Option Addr) (bs : List (BitVec 8)) (n cap : Nat) (w : World) (hb : BytesAt w ao bs) (hn : bs.length = n) (hm : n ≤ 140737488351232) :
    Calls Try.prog 74 #[.slice ao n cap] w fun e w' => e = .returned (.int .u32 (bv (Crc.sum bs))) ∧ w = w' := by
  subst hn; exact ref_sum ao bs cap w hb hm
set_option maxRecDepth 100000 in
set_option maxHeartbeats 8000000 in
theorem ref_load_long (gb off p ca : Nat) (bs : List (BitVec 8)) (w : World) (hb : BytesAt w (some ⟨gb, off, none⟩) bs) (hn : bs.length = p + 4) (hc : p + 4 ≤ ca) (hcm : ca ≤ 9223372036854775807) (hm : p + 4 ≤ 140737488351232) :
    Calls Try.prog 41 #[.slice (some ⟨gb, off, none⟩) (p + 4) ca] w (LoadY w (idxR bs)) := by
  have HP := Lib.hid hb
  have HN := Lib.hid hn
  have GB := Lib.hid (show gb < w.heap.size by
    obtain ⟨g', o', e, hcell⟩ := hb 0 (by omega)
    injection e with e; injection e with e; rw [e]
    exact block_lt_of_cell hcell)
  obtain ⟨F, hF⟩ : ∃ F, idxR bs = F := ⟨_, rfl⟩
  have HF := Lib.hid hF
  rw [hF]
  have n1 : ¬ (ca = p) := by omega
  have n2 : ¬ ((p : Int) < 0) := by omega
  have n3 : ¬ ((p : Int) + 4 < 4) := by omega
  have D4 : Hid ((bs.drop p).length = 4) := Lib.hid (by rw [List.length_drop, HN.out]; omega)
  obtain ⟨sm, hsm⟩ : ∃ sm, Crc.sum (bs.take p) = sm := ⟨_, rfl⟩
  have SM := Lib.hid hsm
  obtain ⟨lv, hlv⟩ : ∃ lv, leB (bs.drop p) = lv := ⟨_, rfl⟩
  have LV := Lib.hid hlv
  have CR : Hid (F = if ¬ lv = sm.setWidth 64 then (idx0 0, 5) else bodyI (bs.take p)) := Lib.hid (by
    have e4 : bs.length - 4 = p := by rw [HN.out]; omega
    have e5 := sum_is D4.out sm
    rw [LV.out] at e5
    rw [← HF.out]
    unfold idxR
    rw [if_neg (by rw [HN.out]; omega), e4, SM.out, LV.out]
    by_cases h : lv = sm.setWidth 64
    · rw [if_neg (by simp [e5.1 h]), if_neg (by simp [h])]
    · rw [if_pos (fun h2 => h (e5.2 h2)), if_pos h])
  clear hb hn hF hsm hlv
  go_enter Try.func41, Try.ntmps41
  go_wp2_with fail
  refine wp_region_mixed [0, 1, 2, 4, 5, 6, 3, 7, 8, 9] (fun _ => True) (by kernel_rfl) (by kernel_rfl) (by intro c a d v w h; cases d <;> exact h) trivial ?_
  intro hne
  simp only [pick, List.map_cons, List.map_nil, List.getD_cons_zero, List.getD_cons_succ]
  refine wpMix_reads 6 _ (by kernel_rfl) ?_
  simp only [List.take_succ_cons, List.take_zero, List.drop_succ_cons, List.drop_zero]
  repeat (go_big_quiet_step (fail))
  refine wpQuiet_nil ?_
  refine wpMix_act rfl ?_ rfl
  go_wp2_with fail
  refine (ref_number_to (some ⟨gb, off + p, none⟩) (bs.drop p) 4 _ _ ((HP.out.drop p).below (below_drew w)) D4.out (by rw [D4.out]; decide)).mono ?_
  rintro e w2 ⟨rfl, rfl⟩
  rw [LV.out]
  go_wp2_with fail
  refine ⟨⟨⟨_, trivial⟩, rfl⟩, ?_⟩
  refine wpMix_act rfl ?_ rfl
  go_wp2_with fail
  refine (ref_sum_of (some ⟨gb, off, none⟩) (bs.take p) p ca _ ((HP.out.take p).below (below_drew w)) (by rw [List.length_take, HN.out]; omega) (by omega)).mono ?_
  rintro e w3 ⟨rfl, rfl⟩
  rw [SM.out]
  by_cases hq : lv = sm.setWidth 64
  · have t5 : (lv != sm.setWidth 64) = false := by simp [hq]
    have EB : Hid (bodyI (bs.take p) = F) := Lib.hid (by rw [CR.out, if_neg (by simp [hq])])
    clear hq
    obtain ⟨P, hPP⟩ : ∃ P, bs.take p = P := ⟨_, rfl⟩
    have LR : Hid (P.length = p) := Lib.hid (by rw [← hPP, List.length_take, HN.out]; omega)
    have SR : Hid (BytesAt w.drew (some ⟨gb, off, none⟩) P) := Lib.hid (by rw [← hPP]; exact (HP.out.take p).below (below_drew w))
    have SR1 : Hid (BytesAt w (some ⟨gb, off, none⟩) P) := Lib.hid (by rw [← hPP]; exact HP.out.take p)
    rw [hPP] at EB
    have HM2 : Hid (P.length ≤ 140737488355328) := Lib.hid (by have := LR.out; omega)
    clear hPP
    have bq := below_alloc w.drew (.cells #[.slice (some ⟨gb, off, none⟩) p ca, .int .i64 0, .int .i64 0] 110)
    have hq := heap_alloc_new w.drew (.cells #[.slice (some ⟨gb, off, none⟩) p ca, .int .i64 0, .int .i64 0] 110)
    obtain ⟨w4, hw4⟩ : ∃ w4, w.drew.alloc (.cells #[.slice (some ⟨gb, off, none⟩) p ca, .int .i64 0, .int .i64 0] 110) = w4 := ⟨_, rfl⟩
    rw [hw4] at bq hq
    have B4 := Lib.hid (show Below w.heap.size w w4 from below_trans (below_drew w) bq)
    have hq' : w.drew.heap.size = w.heap.size := rfl
    have Q4 := Lib.hid (show QAt w4 w.heap.size (some ⟨gb, off, none⟩) ca P 0 0 from qat_zero LR.out hq (SR.out.below bq) (by omega) hcm (by have := GB.out; omega))
    clear bq hq hq'
    obtain ⟨v1, k1, e1, hv1⟩ := varH_some P 0 0 mostN
    have V1 := Lib.hid hv1
    have R1 := Lib.hid (bodyN_of hv1)
    clear hv1
    go_wp2_with fail
    refine ⟨⟨⟨_, trivial⟩, rfl⟩, ?_⟩
    refine wpMix_reads 2 _ (by kernel_rfl) ?_
    simp only [List.take_succ_cons, List.take_zero, List.drop_succ_cons, List.drop_zero]
    repeat (go_big_quiet_step (fail))
    refine wpQuiet_nil ?_
    refine wpMix_nil ?_
    clear hne
    go_wp2_with fail
    refine (q_varint w.heap.size (some ⟨gb, off, none⟩) ca P 0 0 mostN w4 Q4.out HM2.out v1 k1 e1 V1.out).mono ?_
    rintro x w5 ⟨rfl, hN⟩
    have Q5 := Lib.hid hN.at'
    have L5 := Lib.hid (show Below w.heap.size w w5 from hN.but.below B4.out (Nat.le_refl _) B4.out.size)
    clear hN Q4 hw4
    have q2 := Q5.out.at2
    try dsimp only
    by_cases he1 : e1 = 0
    · subst he1
      simp only [Int.natCast_zero] at q2
      have y0 := bv_nonneg v1
      by_cases hz : bv v1 < 1
      · have t1 : decide (bv v1 < 1) = true := decide_eq_true hz
        have FF := Lib.hid (show F = (idx0 0, 4) from by rw [← EB.out]; exact R1.out.2.1 rfl (.inl (bv_zero.2 (by omega))))
        clear hz y0
        go_wp2_with fail
        go_ret2
        exact .inl ⟨by rw [FF.out]; decide, by rw [FF.out]; rfl, L5.out⟩
      · have t1 : decide (bv v1 < 1) = false := decide_eq_false hz
        by_cases hb : 1048576 < bv v1
        · have t2 : decide (1048576 < bv v1) = true := decide_eq_true hb
          have FF := Lib.hid (show F = (idx0 0, 4) from by rw [← EB.out]; exact R1.out.2.1 rfl (.inr hb))
          clear hz hb y0
          go_wp2_with fail
          go_ret2
          exact .inl ⟨by rw [FF.out]; decide, by rw [FF.out]; rfl, L5.out⟩
        · have t2 : decide (1048576 < bv v1) = false := decide_eq_false hb
          have y1 := i64_of_bv v1 (by omega)
          have S1 := Lib.hid (show 1 ≤ bv v1 ∧ bv v1 ≤ 1048576 from ⟨by omega, by omega⟩)
          obtain ⟨v2, k2, e2, hv2⟩ := varH_some P k1 0 mostN
          have V2 := Lib.hid hv2
          have R2 := Lib.hid (R1.out.2.2 rfl (fun e => hz (by rw [bv_zero.1 e]; decide)) (by omega) hv2)
          obtain ⟨st, hst⟩ : ∃ st, bv v1 = st := ⟨_, rfl⟩
          rw [hst] at t1 t2 y1 S1 R2 ⊢
          clear hz hb y0 hst hv2 R1
          have bX := below_alloc w5 (.cells #[.int .i64 st, .slice none 0 0, .int .i64 0, .int .i64 0] 81)
          have nX := heap_alloc_new w5 (.cells #[.int .i64 st, .slice none 0 0, .int .i64 0, .int .i64 0] 81)
          obtain ⟨w6, hw6⟩ : ∃ w6, w5.alloc (.cells #[.int .i64 st, .slice none 0 0, .int .i64 0, .int .i64 0] 81) = w6 := ⟨_, rfl⟩
          rw [hw6] at bX nX
          have I6 := Lib.hid (show LY w w.heap.size w5.heap.size (some ⟨gb, off, none⟩) ca P k1 0 (idx0 st) none 0 0 w6 from ⟨Q5.out.on bX, SR1.out, ⟨nX, OwnE.nil _ _, Nat.le_refl _⟩, below_trans L5.out bX, Nat.le_refl _, Q5.out.lt⟩)
          clear bX nX
          go_wp2_with fail
          refine (q_varint w.heap.size (some ⟨gb, off, none⟩) ca P k1 0 mostN w6 I6.out.rd HM2.out v2 k2 e2 V2.out).mono ?_
          rintro x w7 ⟨rfl, hN⟩
          have I7 := Lib.hid (I6.out.now hN)
          obtain ⟨yb, hyb⟩ : ∃ yb, w5.heap.size = yb := ⟨_, rfl⟩
          rw [hyb] at I7 ⊢
          obtain ⟨cn, hcn⟩ : ∃ cn, v2.toNat = cn := ⟨_, rfl⟩
          have CN : cn ≤ 18446744073709551615 := by have := v2.isLt; omega
          have RN := Lib.hid (show RunI F P (idx0 st) k2 e2 e2 cn from ⟨fun e => ⟨e, idx0_rd S1.out.1 S1.out.2, by
            rw [← EB.out, R2.out.2 e, hcn]⟩, fun e => by rw [← EB.out, R2.out.1 e]⟩)
          rw [show bv v2 = (cn : Int) from by rw [← hcn]; rfl]
          clear hN hyb hcn hw6 I6 R2 V1 V2 L5 Q5 q2 t1 t2 y1
          try dsimp only
          go_wp2_with fail
          go_loopw [9] (fun v9 wr => ∃ (i c k bad n cc : Nat) (X : IdxV) (ao : Option Addr), i + c = cn ∧ v9 = .int .u64 i ∧ Hid (X.told = decide (0 < i) ∧ X.step = st) ∧ Hid (LY w w.heap.size yb (some ⟨gb, off, none⟩) ca P k bad X ao n cc wr) ∧ Hid (RunI F P X k bad bad c)) (fun v9 _ => cn - (intOf v9).toNat)
          case atStart => exact ⟨0, cn, k2, e2, 0, 0, idx0 st, none, by omega, rfl, Lib.hid ⟨rfl, rfl⟩, I7, RN⟩
          case round =>
            clear I7 RN
            obtain ⟨i, c, k, bad, n, cc, X, ao, hic, rfl, HT, I, RN⟩ := hrel
            have q2 := I.out.rd.at2
            have q1 := I.out.rd.at1
            by_cases hb0 : bad = 0
            · subst hb0
              simp only [Int.natCast_zero] at q2
              obtain ⟨-, hx, hf⟩ := RN.out.on rfl
              have HX := Lib.hid hx
              have FF := Lib.hid hf
              clear hx hf
              match c with
              | 0 =>
                obtain rfl : i = cn := by omega
                have F2 := Lib.hid (show (if P.drop k ≠ [] then ((idx0 0, 4) : IdxV × Nat) else (X, 0)) = F from by
                  have h : finR (X, (P.drop k, 0), 0) = F := FF.out
                  unfold finR at h
                  rw [if_neg (fun e => e rfl)] at h
                  exact h)
                have KL := Lib.hid I.out.rd.le
                by_cases hl : k < p
                · have hlz : decide ((k : Int) < (p : Int)) = true := decide_eq_true (by omega)
                  have HE := Lib.hid (show F = (idx0 0, 4) from by
                    rw [← F2.out, if_pos]
                    intro e
                    have := congrArg List.length e
                    rw [List.length_drop, LR.out] at this
                    simp at this
                    omega)
                  go_wp2_with fail
                  go_ret2
                  exact .inl ⟨by rw [HE.out]; decide, by rw [HE.out]; rfl, I.out.low⟩
                · have hlz : decide ((k : Int) < (p : Int)) = false := decide_eq_false (by omega)
                  have HE := Lib.hid (show F = (X, 0) from by
                    rw [← F2.out, if_neg]
                    intro e
                    exact e (List.drop_eq_nil_of_le (by have := LR.out; omega)))
                  go_wp2_with fail
                  go_ret2
                  exact .inr ⟨by rw [HE.out], by rw [HE.out]; exact HX.out, yb, ao, n, cc, rfl, by rw [HE.out]; exact I.out.at'.base (by have := I.out.lb; have := I.out.qy; omega), I.out.low⟩
              | c + 1 =>
                have kz : (i : Int) < (cn : Int) := by omega
                have cw : IntKind.u64.wrap ((i : Int) + 1) = (i : Int) + 1 := IntWalk.u64_in _ (by omega)
                obtain ⟨-, hs⟩ := HT.out
                subst hs
                go_upto_if 65 with (fail)
                iterate 6 go_step
                refine rl_first w.heap.size yb n cc ca k c i P X ao (some ⟨gb, off, none⟩) F w wr _ _ _ _ _ _ _ _ _ _ _ _ _ _ _ _ _ _ _ _ _ _ _ _ _ _ _ _ _ _ _ _ _ _ _ _ _ _ _ _ _ _ _ _ _ _ _ _ _ _ _ _ _ _ _ _ _ _ _ _ _ _ _ _ _ _ _ _ _ _ _ _ _ _ _ _ _ _ _ _ _ _ _ _ _ _ _ _ _ _ _ _ _ _ _ _ _ _ _ _ _ _ _ _ _ _ _ _ _ _ _ _ _ _ _ _ _ _ _ _ _ _ _ _ _ _ _ _ _ _ _ _ _ _ _ _ _ _ _ _ _ _ _ _ _ _ _ _ _ _ _ _ _ _ _ _ _ _ _ _ _ _ _ _ _ _ _ HM2.out I RN ?_ ?_ ?_
                · intro c a d v w h; cases d <;> exact h
                · intro wd er x10 x68 x69 x70 x71 x72 x73 x74 x75 x76 x77 x78 x79 x80 x81 x82 x83 x84 x85 x86 x87 x88 x89 x90 x91 h0 hf hl
                  go_ret2
                  exact .inl ⟨by rw [hf]; exact h0, by rw [hf]; rfl, hl⟩
                · intro wd v1 k1 x68 x69 x70 x71 x72 x73 x74 x75 x76 x77 x78 x79 x80 x81 x82 x83 x84 x85 x86 x87 x88 x89 x90 x91 hv hne hle hI
                  refine rl_second w.heap.size yb n cc ca k1 k c i v1 P X ao _ F w wd _ _ _ _ _ _ _ _ _ _ _ _ _ _ _ _ _ _ _ _ _ _ _ _ _ _ _ _ _ _ _ _ _ _ _ _ _ _ _ _ _ _ _ _ _ _ _ _ _ _ _ _ _ _ _ _ _ _ _ _ _ _ _ _ _ _ _ _ _ _ _ _ _ _ _ _ _ _ _ _ _ _ _ _ _ _ _ _ _ _ _ _ _ _ _ _ _ _ _ _ _ _ _ _ _ _ _ _ _ _ _ _ _ _ _ _ _ _ _ _ _ _ _ _ _ _ _ _ _ _ _ _ _ _ _ _ _ _ _ _ _ _ _ _ _ _ _ _ _ _ _ _ _ _ _ _ _ _ _ _ _ _ _ _ _ _ HM2.out (Lib.hid hI) RN (Lib.hid hv) (Lib.hid ⟨hne, hle⟩) HT.out.1 ?_ ?_
                  · intro wd er x11 x92 x93 x94 x95 x96 x97 x98 x99 x100 x101 x102 x103 x104 x105 x106 x107 x108 x109 x110 x111 x112 x113 x114 x115 x116 x117 x118 x119 x120 h0 hf hl
                    go_ret2
                    exact .inl ⟨by rw [hf]; exact h0, by rw [hf]; rfl, hl⟩
                  · intro wd2 v2 k2 x92 x93 x94 x95 x96 x97 x98 x99 x100 x101 x102 x103 x104 x105 x106 x107 x108 x109 x110 x111 x112 x113 x114 x115 x116 x117 x118 x119 x120 hr hle2 hI2
                    refine rl_third w.heap.size yb n cc ca k2 i v1 v2 P X ao _ w wd2 _ _ _ _ _ _ _ _ _ _ _ _ _ _ _ _ _ _ _ _ _ _ _ _ _ _ _ _ _ _ _ _ _ _ _ _ _ _ _ _ _ _ _ _ _ _ _ _ _ _ _ _ _ _ _ _ _ _ _ _ _ _ _ _ _ _ _ _ _ _ _ _ _ _ _ _ _ _ _ _ _ _ _ _ _ _ _ _ _ _ _ _ _ _ _ _ _ _ _ _ _ _ _ _ _ _ _ _ _ _ _ _ _ _ _ _ _ _ _ _ _ _ _ _ _ _ _ _ _ _ _ _ _ _ _ _ _ _ _ _ _ _ _ _ _ _ _ _ _ _ _ _ _ _ _ _ _ _ _ _ _ _ _ _ _ (Lib.hid hI2) HX hle hle2 ?_ ?_
                    · intro c a d v w h; cases d <;> exact h
                    · intro wd3 ao' n' ca' x121 x122 x123 x124 x125 x126 x127 x128 x129 x130 x131 x132 x133 x134 x135 x136 x137 x138 x139 x140 x141 x142 x143 x144 x145 x146 x147 x148 x149 x150 x151 x152 x153 hI3
                      have NR := Lib.hid (RN.out.next hr (fun _ => rfl))
                      have I3 := Lib.hid hI3
                      clear hr hle2 hI2 hI3 hv hne hle hI q1 q2
                      go_wp2_with fail
                      go_roundw
                      case rel => exact ⟨i + 1, c, k2, 0, n', ca', pushV X ⟨X.last.lsn + bv v1, X.last.off + bv v2⟩, ao', by omega, by go_num, Lib.hid ⟨by simp [pushV], rfl⟩, I3, NR⟩
                      case measure => simp [intOf]; omega
            · have HE := Lib.hid (RN.out.off hb0)
              have H0 := Lib.hid hb0
              have t1 : ((bad : Int) != 0) = true := by simp; omega
              have t2 : ((bad : Int) == 0) = false := by simp; omega
              clear hb0 q1
              by_cases hi : i < cn
              · have kz : (i : Int) < (cn : Int) := by omega
                go_wp2_with fail
                go_quiet (fail)
                go_wp2_with fail
                go_ret2
                exact .inl ⟨by rw [HE.out]; exact H0.out, by rw [HE.out]; rfl, below_trans I.out.low (below_drewN _ _)⟩
              · have kz : ¬ (i : Int) < (cn : Int) := by omega
                go_wp2_with fail
                go_quiet (fail)
                go_wp2_with fail
                go_ret2
                exact .inl ⟨by rw [HE.out]; exact H0.out, by rw [HE.out]; rfl, below_trans I.out.low (below_drewN _ _)⟩
    · have FF := Lib.hid (show F = (idx0 0, e1) from by rw [← EB.out]; exact R1.out.1 he1)
      have H0 := Lib.hid he1
      have t2 : ((e1 : Int) != 0) = true := by simp; omega
      clear he1
      go_wp2_with fail
      go_quiet (fail)
      go_wp2_with fail
      go_ret2
      exact .inl ⟨by rw [FF.out]; exact H0.out, by rw [FF.out]; rfl, below_trans L5.out (below_drewN _ _)⟩
  · have t5 : (lv != sm.setWidth 64) = true := by simp [hq]
    have EF := Lib.hid (show F = (idx0 0, 5) by rw [CR.out, if_pos hq])
    clear hq
    go_wp2_with fail
    refine ⟨⟨⟨_, trivial⟩, rfl⟩, ?_⟩
    refine wpMix_reads 2 _ (by kernel_rfl) ?_
    simp only [List.take_succ_cons, List.take_zero, List.drop_succ_cons, List.drop_zero]
    repeat (go_big_quiet_step (fail))
    refine wpQuiet_nil ?_
    refine wpMix_nil ?_
    clear hne
    go_wp2_with fail
    go_ret2
    exact .inl ⟨by rw [EF.out]; decide, by rw [EF.out]; rfl, below_drew _⟩
theorem ref_load (ao : Option Addr) (bs : List (BitVec 8)) (n ca : Nat) (w : World) (hb : BytesAt w ao bs) (hn : bs.length = n) (hc : n ≤ ca) (hcm : ca ≤ 9223372036854775807) (hm : n ≤ 140737488351232) :
    Calls Try.prog 41 #[.slice ao n ca] w (LoadY w (idxR bs)) := by
  rcases Nat.lt_or_ge n 4 with h | h
  · have e : idxR bs = (idx0 0, 2) := by unfold idxR; rw [if_pos (by omega)]
    rw [e]
    exact ref_load_short ao n ca w h
  · obtain ⟨p, rfl⟩ : ∃ p, n = p + 4 := ⟨n - 4, by omega⟩
    obtain ⟨gb, off, rfl, -⟩ := hb 0 (by omega)
    exact ref_load_long gb off p ca bs w hb hn hc hcm hm
end Go.Proofs.Ytmkljmljbbijeaa

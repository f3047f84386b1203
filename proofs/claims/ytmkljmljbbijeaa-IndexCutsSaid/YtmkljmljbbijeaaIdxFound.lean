/- The walk of flumelaw9.IndexFound. -/
import Derived.Test.YtmkljmljbbijeaaIdxBegun
import Derived.Test.YtmkljmljbbijeaaIdxArgs
import Derived.Test.YtmkljmljbbijeaaPiece
namespace Go.Proofs.Ytmkljmljbbijeaa
open Go.RowKit

/-- An index that was told the frames at these offsets, from LSN 100 on. -/
structure FoundI (step : Int) (X : IdxV) (O : List Int) : Prop where
  ok : IdxOk X
  same : X.step = step
  told : X.told = true ↔ 1 ≤ O.length
  last : 1 ≤ O.length → X.last = ⟨100 + (O.length : Int) - 1, O.getD (O.length - 1) 0⟩
  ent : ∀ t, t < X.l.length → ∃ j : Nat, j < O.length ∧ nthE X.l t = ⟨100 + (j : Int), O.getD j 0⟩
  first : 1 ≤ O.length → 1 ≤ X.l.length ∧ (nthE X.l 0).lsn = 100
  cov : ∀ (t j : Nat), t < X.l.length → j < O.length → (nthE X.l t).lsn ≤ 100 + (j : Int) → (∀ u, t < u → u < X.l.length → 100 + (j : Int) < (nthE X.l u).lsn) → O.getD j 0 - (nthE X.l t).off < step
  few : X.l.length ≤ O.length
theorem found0 {s : Int} (h : 1 ≤ s) (h2 : s ≤ 1048576) : FoundI s (idx0 s) [] :=
  ⟨idx0_ok h h2, rfl, ⟨fun e => (by cases e), fun e => (by simp at e)⟩, fun e => (by simp at e), fun t ht => (by simp [idx0] at ht), fun e => (by simp at e), fun t j ht => (by simp [idx0] at ht), Nat.zero_le _⟩
theorem getD_left {O : List Int} {x : Int} {j : Nat} (h : j < O.length) : (O ++ [x]).getD j 0 = O.getD j 0 := by
  simp [List.getD_eq_getElem?_getD, List.getElem?_append_left h]
theorem getD_end (O : List Int) (x : Int) : (O ++ [x]).getD O.length 0 = x := by simp [List.getD_eq_getElem?_getD]
/-- The next frame is told. -/
theorem FoundI.next {step : Int} {X Y : IdxV} {O : List Int} {off er : Int} (h : FoundI step X O) (hO : O.length ≤ 400) (h0 : 0 ≤ off) (h1 : off ≤ 2147483647) (hlt : 1 ≤ O.length → O.getD (O.length - 1) 0 < off) (hA : AddIs X (100 + (O.length : Int)) off Y er) : er = 0 ∧ FoundI step Y (O ++ [off]) := by
  have hb : ¬ BadArg (100 + (O.length : Int)) off := by unfold BadArg; omega
  have ho : ¬ BadOrder X (100 + (O.length : Int)) off := fun hh => by
    have h3 := h.told.1 hh.1
    have h4 := h.last h3
    have h5 := hlt h3
    have h6 := hh.2
    rw [h4] at h6
    dsimp only at h6
    omega
  have ll : (O ++ [off]).length = O.length + 1 := by simp
  have hokY := hA.ok h.ok (by omega)
  have lastO : (O ++ [off]).getD ((O ++ [off]).length - 1) 0 = off := by rw [ll, Nat.add_sub_cancel]; exact getD_end O off
  have entLt : ∀ t, t < X.l.length → (nthE X.l t).lsn < 100 + (O.length : Int) := fun t ht => by
    obtain ⟨j, hj, e⟩ := h.ent t ht
    rw [e]; dsimp only; omega
  have mk : ∀ (Z : IdxV), IdxOk Z → Z.step = X.step → Z.told = true → Z.last = ⟨100 + (O.length : Int), off⟩ → (Z.l = X.l ++ [⟨100 + (O.length : Int), off⟩] ∨ (Z.l = X.l ∧ ¬ LaidE X off)) → FoundI step Z (O ++ [off]) := fun Z zo zs zt zl zz => by
    refine ⟨zo, zs.trans h.same, ⟨fun _ => by omega, fun _ => zt⟩, fun _ => ?_, ?_, fun _ => ?_, ?_, ?_⟩
    · rw [zl, lastO, ll]; congr 1; omega
    · intro t ht
      rcases zz with e | ⟨e, -⟩
      · rw [e] at ht ⊢
        rw [List.length_append, List.length_singleton] at ht
        rcases Nat.lt_or_ge t X.l.length with h3 | h3
        · obtain ⟨j, hj, e2⟩ := h.ent t h3
          exact ⟨j, by omega, by rw [nthE_left h3, e2, getD_left hj]⟩
        · obtain rfl : t = X.l.length := by omega
          exact ⟨O.length, by omega, by rw [nthE_last, getD_end]⟩
      · rw [e] at ht ⊢
        obtain ⟨j, hj, e2⟩ := h.ent t ht
        exact ⟨j, by omega, by rw [e2, getD_left hj]⟩
    · rcases Nat.eq_zero_or_pos O.length with h3 | h3
      · have hx : X.l.length = 0 := by have := h.few; omega
        rcases zz with e | ⟨e, hn⟩
        · rw [e]
          have e0 := nthE_last X.l (⟨100 + (O.length : Int), off⟩ : EntV)
          rw [hx] at e0
          rw [e0]
          exact ⟨by rw [List.length_append]; simp, by dsimp only; omega⟩
        · exact absurd (.inl hx) hn
      · obtain ⟨h4, h5⟩ := h.first h3
        rcases zz with e | ⟨e, -⟩
        · rw [e, nthE_left h4]; exact ⟨by rw [List.length_append]; omega, h5⟩
        · rw [e]; exact ⟨h4, h5⟩
    · intro t j ht hj hle hab
      rw [ll] at hj
      have hs := h.ok.step.1
      have hst := h.same
      rcases zz with e | ⟨e, hn⟩
      · rw [e] at ht hle hab ⊢
        have hll : (X.l ++ [(⟨100 + (O.length : Int), off⟩ : EntV)]).length = X.l.length + 1 := by simp
        rw [hll] at ht hab
        rcases Nat.lt_or_ge t X.l.length with h3 | h3
        · rcases Nat.lt_or_ge j O.length with h4 | h4
          · rw [nthE_left h3] at hle ⊢
            rw [getD_left h4]
            exact h.cov t j h3 h4 hle fun u h5 h6 => by
              have := hab u h5 (by omega)
              rwa [nthE_left h6] at this
          · have := hab X.l.length h3 (by omega)
            rw [nthE_last] at this
            dsimp only at this
            omega
        · obtain rfl : t = X.l.length := by omega
          rw [nthE_last] at hle ⊢
          dsimp only at hle ⊢
          obtain rfl : j = O.length := by omega
          rw [getD_end]
          omega
      · rw [e] at ht hle hab ⊢
        rcases Nat.lt_or_ge j O.length with h4 | h4
        · rw [getD_left h4]
          exact h.cov t j ht h4 hle hab
        · obtain rfl : j = O.length := by omega
          rw [getD_end]
          have h5 : t = X.l.length - 1 := by
            rcases Nat.lt_or_ge t (X.l.length - 1) with h6 | h6
            · have h7 := hab (X.l.length - 1) h6 (by omega)
              have h8 := entLt (X.l.length - 1) (by omega)
              omega
            · omega
          have h6 : ¬ step ≤ off - (lastE X.l).off := fun h7 => hn (.inr (by rw [hst]; exact h7))
          unfold lastE at h6
          rw [← h5] at h6
          omega
    · have := h.few
      rcases zz with e | ⟨e, -⟩
      · rw [e, List.length_append, List.length_singleton, ll]; omega
      · rw [e, ll]; omega
  rcases hA with ⟨h3, -⟩ | ⟨-, h3, -⟩ | ⟨-, -, h3, rfl, rfl⟩ | ⟨-, -, h3, rfl, rfl⟩
  · exact absurd h3 hb
  · exact absurd h3 ho
  · exact ⟨rfl, mk _ hokY rfl rfl rfl (.inl rfl)⟩
  · exact ⟨rfl, mk _ hokY rfl rfl rfl (.inr ⟨rfl, h3⟩)⟩
/-- What is found, for each frame. -/
theorem FoundI.find {step : Int} {X : IdxV} {O : List Int} (h : FoundI step X O) {k : Nat} (hk : k < O.length) {en : EntV} {ok : Bool} (hF : FindIs X.l (100 + (k : Int)) en ok) : ok = true ∧ ∃ j : Nat, j ≤ k ∧ en = ⟨100 + (j : Int), O.getD j 0⟩ ∧ O.getD k 0 - O.getD j 0 < step := by
  obtain ⟨h1, h2⟩ := h.first (by omega)
  rcases hF with ⟨t, h3, h4, h5, rfl, rfl⟩ | ⟨h3, -, -⟩
  · obtain ⟨j, hj, e⟩ := h.ent t h3
    have h6 := h.cov t k h3 hk h4 h5
    rw [e] at h4 h6
    dsimp only at h4 h6
    exact ⟨rfl, j, by omega, e, h6⟩
  · have := h3 0 (by omega)
    omega
theorem FoundI.none {step : Int} {X : IdxV} {O : List Int} (h : FoundI step X O) {en : EntV} {ok : Bool} (hF : FindIs X.l 99 en ok) : en = ⟨0, 0⟩ ∧ ok = false := by
  rcases hF with ⟨t, h3, h4, -⟩ | ⟨-, h5, h6⟩
  · obtain ⟨j, hj, e⟩ := h.ent t h3
    rw [e] at h4
    dsimp only at h4
    omega
  · exact ⟨h5, h6⟩
theorem held_ne_own {w : World} {base base' : Nat} {v u : Value} {L : List EntV} {O : List Int} (h : HeldE w base v L) (ho : OwnN w base' u O) {j : Nat} (hj : v.ownBlock = some j) : u.ownBlock ≠ some j := fun e => by
  obtain ⟨-, c, hc⟩ := held_blk h hj
  obtain ⟨-, c', hc'⟩ := rows_blk ho e
  rw [hc] at hc'
  simp at hc'
theorem own_ne_idx {w : World} {base xb : Nat} {u : Value} {O : List Int} {cs : Array Value} {f : Nat × Nat} (ho : OwnN w base u O) (hr : w.heap[xb]? = some (.cells cs 85 f)) : u.ownBlock ≠ some xb := fun e => by
  obtain ⟨-, c', hc'⟩ := rows_blk ho e
  rw [hr] at hc'
  simp at hc'
/-- Where the telling loop stands. -/
structure TellI (w1 : World) (base xb : Nat) (step : Int) (X : IdxV) (ao : Option Addr) (n ca : Nat) (u : Value) (O : List Int) (off : Int) (wr : World) : Prop where
  at' : IdxAt wr base xb X ao n ca
  own : OwnN wr base u O
  found : FoundI step X O
  low : Below base w1 wr
  off0 : 32 ≤ off
  off1 : off ≤ 32 + 65536 * (O.length : Int)
  gt : 1 ≤ O.length → O.getD (O.length - 1) 0 < off
  rng : ∀ j, j < O.length → 0 ≤ O.getD j 0 ∧ O.getD j 0 ≤ 2147483647
theorem TellI.on {w1 wr w' : World} {base xb : Nat} {step : Int} {X : IdxV} {ao : Option Addr} {n ca : Nat} {u : Value} {O : List Int} {off : Int} (h : TellI w1 base xb step X ao n ca u O off wr) (hb : Below wr.heap.size wr w') (hs : base ≤ wr.heap.size) : TellI w1 base xb step X ao n ca u O off w' :=
  ⟨h.at'.keep hb, h.own.keep hb, h.found, h.low.trans (hb.mono hs), h.off0, h.off1, h.gt, h.rng⟩

structure FndR (q g j k : Nat) (x y z : Int) (w : World) : Prop where
  e0 : w.cell? ⟨q, 0, none⟩ = some (.int .i64 x)
  e1 : w.cell? ⟨q, 1, none⟩ = some (.int .i64 y)
  cj : w.cell? ⟨g, j, none⟩ = some (.int .i64 y)
  ck : w.cell? ⟨g, k, none⟩ = some (.int .i64 z)
theorem FndR.below {q g j k : Nat} {x y z : Int} {w w' : World} (h : FndR q g j k x y z w) (hb : Below w.heap.size w w') : FndR q g j k x y z w' := ⟨cell_keep hb h.e0, cell_keep hb h.e1, cell_keep hb h.cj, cell_keep hb h.ck⟩
set_option maxRecDepth 100000 in
set_option maxHeartbeats 8000000 in
theorem found_rest (base xb n ca m cn : Nat) (step : Int) (X : IdxV) (ao an : Option Addr) (O : List Int) (w : World) (Q : Exit → Act → World → Prop)
    (u1 u2 u3 u4 u6 u7 u9 u10 u11 u12 u13 u14 u15 u16 u17 u18 u19 u20 u21 u22 u23 u24 u25 u26 u27 u28 u29 u30 u31 u32 u33 u34 u35 u36 u37 u38 u39 u40 u41 u42 u43 u44 u45 u46 u47 u48 u49 u50 u51 u52 u53 u54 u55 u56 u57 u58 u59 u60 u61 u62 u63 u64 u65 u66 u67 u68 u69 u70 u71 u72 u73 u74 u75 u76 u77 u78 u79 u80 u81 u82 u83 u84 u85 u86 u87 u88 u89 u90 u91 u92 u93 u94 u95 u96 u97 u98 u99 u100 u101 u102 u103 u104 u105 u106 u107 u108 u109 u110 u111 u112 u113 u114 u115 u116 u117 u118 u119 u120 u121 : Value)
    (I : Hid (IdxAt w base xb X ao n ca)) (G : Hid (OwnN w base (.slice an m cn) O)) (F : Hid (FoundI step X O)) (HM : Hid (O.length = m)) (M4 : m ≤ 400)
    (RO : Hid (∀ j, j < m → 0 ≤ O.getD j 0 ∧ O.getD j 0 ≤ 2147483647))
    (hP : ∀ (c : List PanicEntry) (a : Act) (d : Option Tmp) (v : Value) (w : World), Q (.panic c) (a.put d v) w → Q (.panic c) a w)
    (hQ : ∀ (wd : World) (x10 x11 x12 x13 x14 x58 x59 x60 x61 x62 x63 x64 x65 x66 x67 x68 x69 x70 x71 x72 x73 x74 x75 x76 x77 x78 x79 x80 x81 x82 x83 x84 x85 x86 x87 x88 x89 x90 x91 x92 x93 x94 x95 x96 x97 x98 x99 x100 x101 x102 x103 x104 x105 x106 x107 x108 x109 x110 x111 x112 x113 x114 x115 x116 x117 x118 x119 x120 x121 : Value), Below w.heap.size w wd → Q .ret ⟨#[.int .i64 step, u1, u2, u3, .bool true, .pointer (some ⟨xb, 0, none⟩), u6, u7, .slice an m cn, u9, x10, x11, x12, x13, x14, u15, u16, u17, u18, u19, u20, u21, u22, u23, u24, u25, u26, u27, u28, u29, u30, u31, u32, u33, u34, u35, u36, u37, u38, u39, u40, u41, u42, u43, u44, u45, u46, u47, u48, u49, u50, u51, u52, u53, u54, u55, u56, u57, x58, x59, x60, x61, x62, x63, x64, x65, x66, x67, x68, x69, x70, x71, x72, x73, x74, x75, x76, x77, x78, x79, x80, x81, x82, x83, x84, x85, x86, x87, x88, x89, x90, x91, x92, x93, x94, x95, x96, x97, x98, x99, x100, x101, x102, x103, x104, x105, x106, x107, x108, x109, x110, x111, x112, x113, x114, x115, x116, x117, x118, x119, x120, x121], []⟩ wd) :
    (fromOf Try.f7 15).wp Try.prog Q ⟨#[.int .i64 step, u1, u2, u3, u4, .pointer (some ⟨xb, 0, none⟩), u6, u7, .slice an m cn, u9, u10, u11, u12, u13, u14, u15, u16, u17, u18, u19, u20, u21, u22, u23, u24, u25, u26, u27, u28, u29, u30, u31, u32, u33, u34, u35, u36, u37, u38, u39, u40, u41, u42, u43, u44, u45, u46, u47, u48, u49, u50, u51, u52, u53, u54, u55, u56, u57, u58, u59, u60, u61, u62, u63, u64, u65, u66, u67, u68, u69, u70, u71, u72, u73, u74, u75, u76, u77, u78, u79, u80, u81, u82, u83, u84, u85, u86, u87, u88, u89, u90, u91, u92, u93, u94, u95, u96, u97, u98, u99, u100, u101, u102, u103, u104, u105, u106, u107, u108, u109, u110, u111, u112, u113, u114, u115, u116, u117, u118, u119, u120, u121], []⟩ w := by
  have HQ := Lib.hid hQ
  have HP := Lib.hid hP
  clear hQ hP
  conv => arg 2; whnf
  go_wp2_with fail
  go_loopw [10] (fun i wr => ∃ k : Nat, k ≤ m ∧ i = .int .i64 k ∧ Hid (Below w.heap.size w wr)) (fun i _ => m - (intOf i).toNat)
  case atStart => exact ⟨0, by omega, rfl, Lib.hid (Below.refl _ _)⟩
  case round =>
    obtain ⟨k, hk, rfl, HB⟩ := hrel
    by_cases hlt : k < m
    · have kz : (k : Int) < (m : Int) := by omega
      have z1 : IntKind.i64.wrap (100 + (k : Int)) = 100 + (k : Int) := IntWalk.i64_in _ (by omega)
      have OKH := Lib.hid F.out.ok
      go_wp2_with fail
      refine (idx_find base xb n ca X ao (100 + (k : Int)) wr (Lib.hid (I.out.keep HB.out)) OKH).mono ?_
      rintro e w4 ⟨en, ok, hF, rfl, hb4⟩
      obtain ⟨rfl, j, hj, rfl, hs⟩ := F.out.find (by rw [HM.out]; exact hlt) hF
      obtain ⟨oj, hoj⟩ : ∃ oj, O.getD j 0 = oj := ⟨_, rfl⟩
      rw [hoj] at hs ⊢
      have bE := below_alloc w4 (.cells #[.int .i64 (100 + (j : Int)), .int .i64 oj] 64)
      have nE := heap_alloc_new w4 (.cells #[.int .i64 (100 + (j : Int)), .int .i64 oj] 64)
      obtain ⟨w5, hw5⟩ : ∃ w5, w4.alloc (.cells #[.int .i64 (100 + (j : Int)), .int .i64 oj] 64) = w5 := ⟨_, rfl⟩
      rw [hw5] at bE nE
      have B5 := Lib.hid (below_trans HB.out (below_trans hb4 bE))
      have E5 := Lib.hid nE
      obtain ⟨g, rfl, -, hc1⟩ := (G.out.keep B5.out).elem (i := k) (by rw [HM.out]; exact hlt)
      obtain ⟨g', e', -, hc2⟩ := (G.out.keep B5.out).elem (i := j) (by rw [HM.out]; omega)
      injection e' with e'
      injection e' with e'
      subst e'
      have e0 := cell_of_row _ _ 0 _ _ _ E5.out
      have e1 := cell_of_row _ _ 1 _ _ _ E5.out
      obtain ⟨r1, r2⟩ := RO.out k hlt
      obtain ⟨r3, r4⟩ := RO.out j (by omega)
      obtain ⟨ok', hok⟩ : ∃ ok', O.getD k 0 = ok' := ⟨_, rfl⟩
      rw [hoj] at hc2 r3 r4
      rw [hok] at hc1 r1 r2 hs
      have t1 : decide (100 + (k : Int) < 100 + (j : Int)) = false := decide_eq_false (by omega)
      have t1a : ¬ (k : Int) < (j : Int) := by omega
      have t1b : ¬ k < j := by omega
      have z2a : IntKind.i64.wrap (j : Int) = (j : Int) := IntWalk.i64_in _ (by omega)
      have t2 : decide (100 + (j : Int) < 100) = false := decide_eq_false (by omega)
      have z2 : IntKind.i64.wrap (100 + (j : Int) - 100) = (j : Int) := by rw [show 100 + (j : Int) - 100 = (j : Int) by omega]; exact IntWalk.i64_in _ (by omega)
      have z3 : IntKind.i64.wrap (ok' - oj) = ok' - oj := IntWalk.i64_in _ (by omega)
      have t3 : decide (step ≤ ok' - oj) = false := decide_eq_false (by omega)
      have jz : (j : Int) < (m : Int) := by omega
      have j0 : (j : Int) ≤ 9223372036854775807 := by omega
      clear hF hb4 bE nE hs r1 r2 r3 r4 hoj hok hj
      have q0 : ∀ p : In (FndR w4.heap.size g j k (100 + (j : Int)) oj ok'), p.w.cell? ⟨w4.heap.size, 0, none⟩ = some (.int .i64 (100 + (j : Int))) := fun p => p.h.e0
      have q1 : ∀ p : In (FndR w4.heap.size g j k (100 + (j : Int)) oj ok'), p.w.cell? ⟨w4.heap.size, 1, none⟩ = some (.int .i64 oj) := fun p => p.h.e1
      have q2 : ∀ p : In (FndR w4.heap.size g j k (100 + (j : Int)) oj ok'), p.w.cell? ⟨g, j, none⟩ = some (.int .i64 oj) := fun p => p.h.cj
      have q3 : ∀ p : In (FndR w4.heap.size g j k (100 + (j : Int)) oj ok'), p.w.cell? ⟨g, k, none⟩ = some (.int .i64 ok') := fun p => p.h.ck
      have R5 := Lib.hid (show FndR w4.heap.size g j k (100 + (j : Int)) oj ok' w5 from ⟨e0, e1, hc2, hc1⟩)
      clear e0 e1 hc1 hc2
      try dsimp only
      go_wp2_with fail
      refine wp_region_mixed [0, 1, 2, 3, 4, 5, 6, 7, 8, 9, 10, 11, 12, 13, 14, 15, 16, 17, 18, 19, 20, 21, 22, 23, 24, 25, 26, 27, 28, 29, 30, 31, 32, 33, 34, 35] (FndR w4.heap.size g j k (100 + (j : Int)) oj ok') (by kernel_rfl) (by kernel_rfl) (fun c a d v w h => HP.out c a d v w h) (R5.out.below (below_drew _)) ?_
      intro hne
      simp only [pick, List.map_cons, List.map_nil, List.getD_cons_zero, List.getD_cons_succ]
      refine wpMix_reads 36 _ (by kernel_rfl) ?_
      simp only [List.take_succ_cons, List.take_zero, List.drop_succ_cons, List.drop_zero]
      repeat (go_big_quiet_step (fail))
      refine wpQuiet_nil ?_
      refine wpMix_nil ?_
      clear hne q0 q1 q2 q3
      go_wp2_with fail
      go_roundw
      case rel => exact ⟨k + 1, by omega, by go_num, Lib.hid (below_trans B5.out (below_drew _))⟩
      case measure => simp [intOf]; omega
    · have hge : (m : Int) ≤ (k : Int) := by omega
      have OKH := Lib.hid F.out.ok
      go_wp2_with fail
      refine (idx_find base xb n ca X ao 99 wr (Lib.hid (I.out.keep HB.out)) OKH).mono ?_
      rintro e w4 ⟨en, ok, hF, rfl, hb4⟩
      obtain ⟨rfl, rfl⟩ := F.out.none hF
      have bE := below_alloc w4 (.cells #[.int .i64 0, .int .i64 0] 64)
      have B5 := Lib.hid (below_trans HB.out (below_trans hb4 bE))
      clear hF hb4 bE
      try dsimp only
      go_wp2_with fail
      obtain ⟨w5, hw5⟩ : ∃ w5, w4.alloc (.cells #[.int .i64 0, .int .i64 0] 64) = w5 := ⟨_, rfl⟩
      rw [hw5] at B5
      rw [hw5]
      refine (idx_entries base xb n ca X ao w5 (Lib.hid (I.out.keep B5.out)) OKH).mono ?_
      rintro e w6 ⟨v, rfl, ho, hb6⟩
      obtain ⟨av, cv, hv, -⟩ := (HeldE.of_own ho).shape
      have B6 := Lib.hid (below_trans B5.out hb6)
      have FL := F.out.few
      obtain ⟨ll, hll⟩ : ∃ ll, X.l.length = ll := ⟨_, rfl⟩
      rw [hll] at hv FL
      subst hv
      have FZ : (ll : Int) ≤ (m : Int) := by have := HM.out; omega
      clear ho hb6 FL hll hw5
      try dsimp only
      go_wp2_with fail
      exact HQ.out _ _ _ _ _ _ _ _ _ _ _ _ _ _ _ _ _ _ _ _ _ _ _ _ _ _ _ _ _ _ _ _ _ _ _ _ _ _ _ _ _ _ _ _ _ _ _ _ _ _ _ _ _ _ _ _ _ _ _ _ _ _ _ _ _ _ _ _ _ _ B6.out
set_option maxRecDepth 100000 in
set_option maxHeartbeats 8000000 in
theorem idx_found (step : Int) (a : Option Addr) (S : List Nat) (cs : Nat) (w : World) (hS : U16sAt w a S) :
    Calls Try.prog 7 #[.int .i64 step, .slice a S.length cs] w (TrueBelow w) := by
  have HS := Lib.hid hS
  clear hS
  go_enter Try.func7, Try.ntmps7
  go_wp2_with fail
  refine (idx_begun w).mono ?_
  rintro e w1 ⟨rfl, hb⟩
  have B1 := Lib.hid hb
  clear hb
  by_cases hst : 1 ≤ step ∧ step ≤ 1048576
  · obtain ⟨st1, st2⟩ := hst
    go_wp2_with fail
    refine (idx_new_ok step w1 st1 st2).mono ?_
    rintro e w2 ⟨rfl, hat, hb⟩
    obtain ⟨xb, hxb⟩ : ∃ xb, w1.heap.size = xb := ⟨_, rfl⟩
    rw [hxb] at hat ⊢
    have HXB := Lib.hid hxb
    have T2 := Lib.hid (show TellI w1 xb xb step (idx0 step) none 0 0 (.slice none 0 0) [] 32 w2 from ⟨hat, OwnN.nil _ _, found0 st1 st2, hb.mono (by omega), by omega, by simp, fun h => by simp at h, fun j hj => by simp at hj⟩)
    clear hat hb hxb
    go_wp2_with fail
    go_loopw [7, 8, 9] (fun s7 s8 s9 wr => ∃ (off : Int) (u : Value) (O : List Int) (X : IdxV) (ao : Option Addr) (n ca : Nat), O.length ≤ S.length ∧ O.length ≤ 400 ∧ s7 = .int .i64 off ∧ s8 = u ∧ s9 = .int .i64 O.length ∧ Hid (TellI w1 xb xb step X ao n ca u O off wr)) (fun _ _ s9 _ => S.length - (intOf s9).toNat)
    case atStart => exact ⟨32, _, [], _, _, _, _, by simp, by simp, rfl, rfl, rfl, T2⟩
    case round =>
      clear T2
      obtain ⟨off, u, O, X, ao, n, ca, hO, hO4, rfl, rfl, rfl, T⟩ := hrel
      obtain ⟨m, hm⟩ : ∃ m, O.length = m := ⟨_, rfl⟩
      have HM := Lib.hid hm
      rw [hm] at hO hO4 ⊢
      have XS := Lib.hid (show xb ≤ wr.heap.size from Nat.le_of_lt (heap_lt T.out.at'.row))
      by_cases hc : m < S.length ∧ m < 400
      · obtain ⟨hc1, hc2⟩ := hc
        have c1 : (m : Int) < (S.length : Int) := by omega
        have c2 : (m : Int) < 400 := by omega
        have z1 : IntKind.i64.wrap (100 + (m : Int)) = 100 + (m : Int) := IntWalk.i64_in _ (by omega)
        have o0 := T.out.off0
        have o1 := T.out.off1
        rw [hm] at o1
        have AD := idx_add xb xb n ca X ao (100 + (m : Int)) off wr (Lib.hid T.out.at') (Lib.hid T.out.found.ok) XS
        have ADH := Lib.hid AD
        clear AD hm
        go_wp2_with fail
        refine ADH.out.mono ?_
        rintro e w3 ⟨Y, er, a3, n3, c3, hA, rfl, hat, hT⟩
        obtain ⟨rfl, hF⟩ := T.out.found.next (by rw [HM.out]; omega) (by omega) (by omega) T.out.gt (by rw [HM.out]; exact hA)
        have OU := Lib.hid (show OwnN w3 xb _ O from rows_congr T.out.own fun q hq => hT.far q (by obtain ⟨-, c, h⟩ := rows_blk T.out.own hq; exact heap_lt h) (fun e => own_ne_idx T.out.own T.out.at'.row (e ▸ hq)) (fun e => held_ne_own T.out.at'.held T.out.own e hq))
        have I3 := Lib.hid hat
        have F3 := Lib.hid hF
        have L3 := Lib.hid (T.out.low.trans (hT.below T.out.at'.low (fun j hj => (held_blk T.out.at'.held hj).1) XS.out))
        have S3 := Lib.hid (show xb ≤ w3.heap.size from Nat.le_trans XS.out hT.size)
        clear hA hat hT hF ADH z1
        have bN := below_alloc w3 (.cells #[.int .i64 off] 3)
        have OU4 := Lib.hid (OU.out.keep bN)
        have I4 := Lib.hid (I3.out.keep bN)
        have L4 := Lib.hid (L3.out.trans (bN.mono S3.out))
        have S4 := Lib.hid (Nat.le_trans S3.out bN.size)
        have LE : Hid (O.length ≤ 1099511627776) := Lib.hid (by have := HM.out; omega)
        clear bN
        try dsimp only
        go_wp2_with (refine wpList_append_int (o := ⟨some 49, _, _, _, _, _⟩) rfl _ _ rfl xb _ O rfl OU4.out ⟨w3.heap.size, 0, none⟩ off rfl (cell_one_new _ _ _) LE.out S4.out ?_)
        intro v5 w5 ho5 hg5
        have I5 := Lib.hid (I4.out.move (w' := w5) fun q hq => hg5.block q (by
          rcases hq with rfl | hq
          · exact heap_lt I4.out.row
          · obtain ⟨-, c, h⟩ := held_blk I4.out.held hq; exact heap_lt h) (fun e => by
          rcases hq with rfl | hq
          · exact own_ne_idx OU4.out I4.out.row e.symm
          · exact held_ne_own I4.out.held OU4.out hq e.symm))
        have O5 := Lib.hid ho5
        have L5 := Lib.hid (L4.out.grown hg5 S4.out (fun j hj => (rows_blk OU4.out hj).1))
        obtain ⟨sm, b, off', rfl, hcell⟩ := (HS.out.below (below_trans B1.out (HXB.out ▸ L5.out))) m hc1
        obtain ⟨s, hs⟩ : ∃ s, at16 S m = s := ⟨_, rfl⟩
        rw [hs] at sm hcell
        have y1 : IntKind.i64.wrap (off + 1) = off + 1 := IntWalk.i64_in _ (by omega)
        have y2 : IntKind.i64.wrap (s : Int) = (s : Int) := IntWalk.i64_in _ (by omega)
        have y3 : IntKind.i64.wrap (off + 1 + (s : Int)) = off + 1 + (s : Int) := IntWalk.i64_in _ (by omega)
        have NT := Lib.hid (show TellI w1 xb xb step Y a3 n3 c3 v5 (O ++ [off]) (off + 1 + (s : Int)) w5 from ⟨I5.out, O5.out, F3.out, L5.out, by omega, by rw [List.length_append, List.length_singleton, HM.out]; omega, fun _ => by rw [List.length_append, List.length_singleton, Nat.add_sub_cancel, getD_end]; omega, fun j hj => by
          rw [List.length_append, List.length_singleton] at hj
          rcases Nat.lt_or_ge j O.length with h | h
          · rw [getD_left h]; exact T.out.rng j h
          · obtain rfl : j = O.length := by omega
            rw [getD_end]; omega⟩)
        have NL := Lib.hid (show (O ++ [off]).length = m + 1 by rw [List.length_append, List.length_singleton, HM.out])
        obtain ⟨O2, hO2⟩ : ∃ O2, O ++ [off] = O2 := ⟨_, rfl⟩
        rw [hO2] at NT NL
        clear ho5 hg5 hs hO2 o0 o1
        go_wp2_with fail
        go_roundw
        case rel => exact ⟨off + 1 + (s : Int), v5, O2, Y, a3, n3, c3, by rw [NL.out]; omega, by rw [NL.out]; omega, rfl, rfl, by rw [NL.out]; go_num, NT⟩
        case measure => simp [intOf]; omega
      · obtain ⟨an, cn, hu, -⟩ := T.out.own.there
        rw [hm] at hu
        subst hu
        have RO := Lib.hid (show ∀ j, j < m → 0 ≤ O.getD j 0 ∧ O.getD j 0 ≤ 2147483647 from fun j hj => T.out.rng j (by rw [HM.out]; exact hj))
        have BW := Lib.hid (show Below w.heap.size w wr from below_trans B1.out (HXB.out ▸ T.out.low))
        clear hm
        by_cases hc1 : m < S.length
        · have c1 : (m : Int) < (S.length : Int) := by omega
          have c2 : (400 : Int) ≤ (m : Int) := by omega
          clear hc
          go_upto_if 37 with (fail)
          iterate 6 go_step
          refine found_rest xb xb n ca m cn step X ao an O wr _ _ _ _ _ _ _ _ _ _ _ _ _ _ _ _ _ _ _ _ _ _ _ _ _ _ _ _ _ _ _ _ _ _ _ _ _ _ _ _ _ _ _ _ _ _ _ _ _ _ _ _ _ _ _ _ _ _ _ _ _ _ _ _ _ _ _ _ _ _ _ _ _ _ _ _ _ _ _ _ _ _ _ _ _ _ _ _ _ _ _ _ _ _ _ _ _ _ _ _ _ _ _ _ _ _ _ _ _ _ _ _ _ _ _ _ _ _ _ _ (Lib.hid T.out.at') (Lib.hid T.out.own) (Lib.hid T.out.found) HM hO4 RO (fun c a d v w h => by cases d <;> exact h) ?_
          intro wd x10 x11 x12 x13 x14 x58 x59 x60 x61 x62 x63 x64 x65 x66 x67 x68 x69 x70 x71 x72 x73 x74 x75 x76 x77 x78 x79 x80 x81 x82 x83 x84 x85 x86 x87 x88 x89 x90 x91 x92 x93 x94 x95 x96 x97 x98 x99 x100 x101 x102 x103 x104 x105 x106 x107 x108 x109 x110 x111 x112 x113 x114 x115 x116 x117 x118 x119 x120 x121 hb
          have BD := Lib.hid (below_trans BW.out hb)
          clear hb
          go_ret
          exact ⟨rfl, BD.out⟩
        · have c1 : (S.length : Int) ≤ (m : Int) := by omega
          clear hc
          go_upto_if 37 with (fail)
          iterate 6 go_step
          refine found_rest xb xb n ca m cn step X ao an O wr _ _ _ _ _ _ _ _ _ _ _ _ _ _ _ _ _ _ _ _ _ _ _ _ _ _ _ _ _ _ _ _ _ _ _ _ _ _ _ _ _ _ _ _ _ _ _ _ _ _ _ _ _ _ _ _ _ _ _ _ _ _ _ _ _ _ _ _ _ _ _ _ _ _ _ _ _ _ _ _ _ _ _ _ _ _ _ _ _ _ _ _ _ _ _ _ _ _ _ _ _ _ _ _ _ _ _ _ _ _ _ _ _ _ _ _ _ _ _ _ (Lib.hid T.out.at') (Lib.hid T.out.own) (Lib.hid T.out.found) HM hO4 RO (fun c a d v w h => by cases d <;> exact h) ?_
          intro wd x10 x11 x12 x13 x14 x58 x59 x60 x61 x62 x63 x64 x65 x66 x67 x68 x69 x70 x71 x72 x73 x74 x75 x76 x77 x78 x79 x80 x81 x82 x83 x84 x85 x86 x87 x88 x89 x90 x91 x92 x93 x94 x95 x96 x97 x98 x99 x100 x101 x102 x103 x104 x105 x106 x107 x108 x109 x110 x111 x112 x113 x114 x115 x116 x117 x118 x119 x120 x121 hb
          have BD := Lib.hid (below_trans BW.out hb)
          clear hb
          go_ret
          exact ⟨rfl, BD.out⟩
  · have hbad := Lib.hid hst
    clear hst
    go_wp2_with fail
    refine (idx_new_no step w1 hbad.out).mono ?_
    rintro e w2 ⟨rfl, rfl⟩
    by_cases h1 : 1 ≤ step
    · have h2 : 1048576 < step := by have := hbad.out; omega
      have h3 : decide (step < 1) = false := decide_eq_false (by omega)
      clear h1
      try dsimp only
      go_wp2_with fail
      go_ret
      exact ⟨rfl, B1.out⟩
    · try dsimp only
      go_wp2_with fail
      go_ret
      exact ⟨rfl, B1.out⟩
end Go.Proofs.Ytmkljmljbbijeaa

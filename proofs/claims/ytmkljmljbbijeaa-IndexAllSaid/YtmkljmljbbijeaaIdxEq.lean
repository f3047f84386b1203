/- The walks of flumelaw9's eq and same. -/
import Derived.Test.YtmkljmljbbijeaaIdxBytes
namespace Go.Proofs.Ytmkljmljbbijeaa
open Go.RowKit

set_option maxRecDepth 100000 in
set_option maxHeartbeats 4000000 in
/-- Of one list, twice. -/
theorem eq_ents (aa ab : Option Addr) (n ca cb : Nat) (L : List EntV) (w : World) (hn : L.length = n) (ha : EntsAt w aa L) (hb : EntsAt w ab L) (hl : n ≤ 8796093022207) :
    Calls Try.prog 50 #[.slice aa n ca, .slice ab n cb] w fun e w' => e = .returned (.bool true) ∧ Below w.heap.size w w' := by
  have HA := Lib.hid ha
  have HB := Lib.hid hb
  have HN := Lib.hid hn
  clear ha hb hn
  go_enter Try.func50, Try.ntmps50
  go_wp2_with fail
  go_loopw [5] (fun i wr => ∃ k : Nat, k ≤ n ∧ i = .int .i64 k ∧ Hid (Below w.heap.size w wr)) (fun i _ => n - (intOf i).toNat)
  case atStart => exact ⟨0, by omega, rfl, Lib.hid (Below.refl _ _)⟩
  case round =>
    obtain ⟨k, hk, rfl, W⟩ := hrel
    by_cases hlt : k < n
    · obtain ⟨b1, o1, rfl, hc1⟩ := (HA.out.below W.out) k (by have := HN.out; omega)
      obtain ⟨b2, o2, rfl, hc2⟩ := (HB.out.below W.out) k (by have := HN.out; omega)
      obtain ⟨c0, c1⟩ := hc1
      obtain ⟨d0, d1⟩ := hc2
      have kz : (k : Int) < (n : Int) := by omega
      go_wp2_with fail
      go_quiet (fail)
      go_wp2_with fail
      go_roundw
      case rel => exact ⟨k + 1, by omega, by go_num, Lib.hid (below_trans W.out (below_drewN _ _))⟩
      case measure => simp [intOf]; omega
    · have hge : (n : Int) ≤ (k : Int) := by omega
      go_wp2_with fail
      go_ret
      exact ⟨rfl, W.out⟩
end Go.Proofs.Ytmkljmljbbijeaa

/-! The walk of flumelaw9's same: an index and the document's one of the same state tell the same. -/
namespace Go.Proofs.Ytmkljmljbbijeaa
open Go.RowKit

theorem own_ents_there {w : World} {base : Nat} {ao : Option Addr} {n cap : Nat} {L : List EntV} (h : OwnE w base (.slice ao n cap) L) (lim : Nat) (hb : base ≤ lim) : ∃ g, base ≤ g ∧ (0 < n → ao = some ⟨g, 0, none⟩) ∧ w.there g 0 (n * 2) ∧ (g < w.heap.size ∨ g = lim) := by
  have hn := (HeldE.of_own h).len.1
  rcases h.2 with ⟨e, h0⟩ | ⟨g, cap', cur, e, hg, hc, hle, hm, hsz, -⟩
  · injection e with e1 e2 e3
    subst e2
    exact ⟨lim, hb, fun h => absurd h (by omega), fun j hj => absurd hj (by omega), .inr rfl⟩
  · injection e with e1 e2 e3
    subst e1 e3
    refine ⟨g, hg, fun _ => rfl, fun j hj => ⟨?_, frozen_of_row _ _ _ _ _ hc⟩, .inl (heap_lt hc)⟩
    rw [cell_of_row _ _ _ _ _ _ hc]
    have : j < cur.size := by omega
    simp [this]
structure SameI (g : Nat) (n : Nat) (w wr : World) : Prop where
  but : But g w wr
  there : wr.there g 0 (n * 2)
theorem SameI.next {g n k : Nat} {w wr : World} (h : SameI g n w wr) (u v : Value) : SameI g n w ((wr.setCell ⟨g, k * 2, none⟩ u).setCell ⟨g, k * 2 + 1, none⟩ v) :=
  ⟨(h.but.setB _ _).setB _ _, there_setCell (there_setCell h.there _ _) _ _⟩
theorem but_own {g base : Nat} {w w' : World} {v : Value} {L : List EntV} (h : OwnE w base v L) (hb : But g w w') (hg : v.ownBlock ≠ some g) : OwnE w' base v L :=
  rows_congr h fun q hq => by
    obtain ⟨-, c, hc⟩ := rows_blk h hq
    exact hb.block q (heap_lt hc) (fun e => hg (e ▸ hq))
theorem idx_low {w : World} {base xb n ca : Nat} {X : IdxV} {ao : Option Addr} (h : IdxAt w base xb X ao n ca) : ∀ q, q = xb ∨ (Value.slice ao n ca).ownBlock = some q → q < w.heap.size := fun q hq => by
  rcases hq with rfl | hq
  · exact heap_lt h.row
  · obtain ⟨-, c, hc⟩ := held_blk h.held hq
    exact heap_lt hc
theorem ref_low {w : World} {base yb n ca : Nat} {X : IdxV} {ao : Option Addr} (h : RefAt w base yb X ao n ca) : ∀ q, q = yb ∨ (Value.slice ao n ca).ownBlock = some q → q < w.heap.size := fun q hq => by
  rcases hq with rfl | hq
  · exact heap_lt h.row
  · obtain ⟨-, c, hc⟩ := rows_blk h.own hq
    exact heap_lt hc

set_option maxRecDepth 100000 in
set_option maxHeartbeats 4000000 in
theorem idx_same (bx xb by' yb nx cx ny cy : Nat) (X : IdxV) (ax ay : Option Addr) (w : World) (H : Hid (IdxAt w bx xb X ax nx cx)) (R : Hid (RefAt w by' yb X ay ny cy)) (ok : Hid (IdxOk X)) :
    Calls Try.prog 42 #[.pointer (some ⟨xb, 0, none⟩), .pointer (some ⟨yb, 0, none⟩)] w fun e w' => e = .returned (.bool true) ∧ Below w.heap.size w w' := by
  obtain rfl := R.out.len.1
  have LL := Lib.hid ok.out.len
  have LB := Lib.hid (idxB_len ok.out)
  go_enter Try.func42, Try.ntmps42
  go_wp2_with fail
  refine (idx_entries bx xb nx cx X ax w H ok).mono ?_
  rintro e w1 ⟨v1, rfl, ho1, hb1⟩
  have B1 := Lib.hid hb1
  have H1 := Lib.hid (H.out.keep hb1)
  have O1 := Lib.hid ho1
  clear ho1 hb1
  go_wp2_with fail
  refine (idx_entries bx xb nx cx X ax w1 H1 ok).mono ?_
  rintro e w2 ⟨v2, rfl, ho2, hb2⟩
  have B2 := Lib.hid (below_trans B1.out hb2)
  have O12 := Lib.hid (O1.out.keep hb2)
  have O2 := Lib.hid ho2
  obtain ⟨a1, c1, rfl, -⟩ := (HeldE.of_own O1.out).shape
  obtain ⟨a2, c2, rfl, -⟩ := (HeldE.of_own O2.out).shape
  obtain ⟨g, hg0, hg1, hg2, hg3⟩ := own_ents_there O1.out w2.heap.size B2.out.size
  have hne : (Value.slice a2 X.l.length c2).ownBlock ≠ some g := fun e => by
    obtain ⟨h1, c, h2⟩ := rows_blk O2.out e
    have h3 := heap_lt h2
    omega
  have G0 := Lib.hid hg0
  have G1 := Lib.hid hg1
  have NE := Lib.hid hne
  have S2 := Lib.hid (show SameI g X.l.length w2 w2 from ⟨But.refl _ _, there_keep hb2 hg2⟩)
  have R2 := Lib.hid (R.out.keep B2.out)
  have H2 := Lib.hid (H.out.keep B2.out)
  have RL := Lib.hid (ref_low R.out)
  have HL := Lib.hid (idx_low H.out)
  have y1 := cell_of_row _ _ 1 _ _ _ R2.out.row
  clear ho2 hb2 hg0 hg1 hg2 hg3 hne
  go_wp2_with fail
  refine (eq_ents a1 ay X.l.length _ _ X.l w2 rfl (HeldE.of_own O12.out).len.2.2.2.1 R2.out.len.2.2.2.1 (by have := LL.out; omega)).mono ?_
  rintro e w3 ⟨rfl, hb3⟩
  have B3 := Lib.hid (below_trans B2.out hb3)
  have S3 := Lib.hid (show SameI g X.l.length w3 w3 from ⟨But.refl _ _, there_keep hb3 S2.out.there⟩)
  have O3 := Lib.hid (O2.out.keep hb3)
  have R3 := Lib.hid (R2.out.keep hb3)
  have H3 := Lib.hid (H2.out.keep hb3)
  clear hb3 y1
  go_wp2_with fail
  go_loopw [8] (fun i wr => ∃ k : Nat, k ≤ X.l.length ∧ i = .int .i64 k ∧ Hid (SameI g X.l.length w3 wr)) (fun i _ => X.l.length - (intOf i).toNat)
  case atStart => exact ⟨0, by omega, rfl, S3⟩
  case round =>
    clear S3 S2
    obtain ⟨k, hk, rfl, S⟩ := hrel
    by_cases hlt : k < X.l.length
    · have kz : (k : Int) < (X.l.length : Int) := by omega
      have k64 : (k : Int) ≤ 2147483648 := by have := LL.out; omega
      have ea := G1.out (by omega)
      subst ea
      obtain ⟨u0, c0⟩ := Option.isSome_iff_exists.1 (S.out.there (k * 2) (by omega)).1
      obtain ⟨u1, c1⟩ := Option.isSome_iff_exists.1 (S.out.there (k * 2 + 1) (by omega)).1
      have f0 := (S.out.there (k * 2) (by omega)).2
      have f1 := (S.out.there (k * 2 + 1) (by omega)).2
      rw [Nat.zero_add] at c0 c1 f0 f1
      go_wp2_with fail
      go_roundw
      case rel => exact ⟨k + 1, by omega, by go_num, Lib.hid (S.out.next _ _)⟩
      case measure => simp [intOf]; omega
    · have hge : (X.l.length : Int) ≤ (k : Int) := by omega
      have RW := Lib.hid (R3.out.move fun q hq => S.out.but.block q (Nat.lt_of_lt_of_le (RL.out q hq) B3.out.size) (by have := RL.out q hq; have := G0.out; omega))
      have HW := Lib.hid (H3.out.move fun q hq => S.out.but.block q (Nat.lt_of_lt_of_le (HL.out q hq) B3.out.size) (by have := HL.out q hq; have := G0.out; omega))
      have OW := Lib.hid (but_own O3.out S.out.but NE.out)
      have BW := Lib.hid (S.out.but.below B3.out G0.out B3.out.size)
      have y1 := cell_of_row _ _ 1 _ _ _ RW.out.row
      go_wp2_with fail
      refine (eq_ents a2 ay X.l.length _ _ X.l wr rfl (HeldE.of_own OW.out).len.2.2.2.1 RW.out.len.2.2.2.1 (by have := LL.out; omega)).mono ?_
      rintro e w4 ⟨rfl, hb4⟩
      have B4 := Lib.hid (BW.out.trans (hb4.mono BW.out.size))
      have R4 := Lib.hid (RW.out.keep hb4)
      have H4 := Lib.hid (HW.out.keep hb4)
      clear hb4 y1
      go_wp2_with fail
      refine (idx_bytes bx xb nx cx X ax w4 H4 ok).mono ?_
      rintro e w5 ⟨v5, rfl, ho5, hb5⟩
      obtain ⟨a5, c5, rfl, x5, n5, -⟩ := ho5.slice
      have B5 := Lib.hid (B4.out.trans (hb5.mono B4.out.size))
      have R5 := Lib.hid (R4.out.keep hb5)
      have X5 := Lib.hid x5
      clear ho5 hb5 x5 n5
      go_wp2_with fail
      refine (ref_bytes by' yb X.l.length cy X ay w5 R5 ok).mono ?_
      rintro e w6 ⟨v6, rfl, ho6, hb6⟩
      obtain ⟨a6, c6, rfl, x6, n6, -⟩ := ho6.slice
      have B6 := Lib.hid (B5.out.trans (hb6.mono B5.out.size))
      have X6 := Lib.hid x6
      have X56 := Lib.hid (X5.out.below hb6)
      clear ho6 hb6 x6 n6
      go_wp2_with fail
      refine (eq_bytes_of a5 a6 (idxB X) (idxB X) _ _ _ _ true _ X56.out X6.out rfl rfl (by have := LB.out; omega) (decide_eq_true rfl)).mono ?_
      rintro e w7 ⟨rfl, n7, hw7⟩
      have B7 := Lib.hid (show Below w.heap.size w w7 from by rw [hw7]; exact B6.out.trans ((below_drewN _ _).mono B6.out.size))
      clear hw7
      go_wp2_with fail
      go_ret
      exact ⟨rfl, B7.out⟩
end Go.Proofs.Ytmkljmljbbijeaa

/- The walk of flumelaw1's WireNone. -/
import Derived.Test.YtggbhakkgbfneaaWireNil
import Derived.Test.YtggbhakkgbfneaaWireReaderLaw
namespace Go.Proofs.Ytggbhakkgbfneaa
open Go.RowKit

set_option maxRecDepth 100000 in
theorem left_none (w : World) : Calls Try.prog 38 #[.pointer none] w fun e w' => e = .returned (.int .i64 0) ∧ Below w.heap.size w w' := by
  go_enter Try.func38, Try.ntmps38
  go_wp2_with fail
  go_ret
  exact ⟨rfl, Below.refl _ _⟩
set_option maxRecDepth 100000 in
theorem at_none (w : World) : Calls Try.prog 37 #[.pointer none] w fun e w' => e = .returned (.int .i64 0) ∧ Below w.heap.size w w' := by
  go_enter Try.func37, Try.ntmps37
  go_wp2_with fail
  go_ret
  exact ⟨rfl, Below.refl _ _⟩
theorem left_zero (b k bad : Nat) (w : World) (hR : RdAt w b [] k bad) : Calls Try.prog 38 #[.pointer (some ⟨b, 0, none⟩)] w fun e w' => e = .returned (.int .i64 0) ∧ Below w.heap.size w w' := by
    have hk : k = 0 := by have := hR.le; simpa using this
    subst hk
    exact (reader_left b [] 0 bad w hR (by simp)).mono fun _ _ ⟨he, hw⟩ => ⟨he, drewN_below hw⟩
theorem at_zero (b k bad : Nat) (w : World) (hR : RdAt w b [] k bad) : Calls Try.prog 37 #[.pointer (some ⟨b, 0, none⟩)] w fun e w' => e = .returned (.int .i64 0) ∧ Below w.heap.size w w' := by
  have hk : k = 0 := by have := hR.le; simpa using this
  subst hk
  exact (reader_at b [] 0 bad w hR).mono fun _ _ ⟨he, hw⟩ => ⟨he, hw ▸ Below.refl _ _⟩
/-- A new reader of no bytes. -/
theorem rd_new (w : World) : RdAt (w.alloc (.cells #[.slice none 0 0, .int .i64 0, .int .i64 0] 65 (0, 0))) w.heap.size [] 0 0 :=
  ⟨⟨none, 0, cell_of_row _ _ 0 _ _ _ (heap_alloc_new w _), fun i hi => by simp at hi, .inl ⟨rfl, rfl⟩, Nat.le_refl _, by omega⟩, cell_of_row _ _ 1 _ _ _ (heap_alloc_new w _), cell_of_row _ _ 2 _ _ _ (heap_alloc_new w _), frozen_of_row _ _ 1 _ _ (heap_alloc_new w _), frozen_of_row _ _ 2 _ _ (heap_alloc_new w _), Nat.le_refl _⟩
theorem q_new (w : World) : QAt (w.alloc (.cells #[.slice none 0 0, .int .i64 0, .int .i64 0] 56 (0, 0))) w.heap.size none 0 [] 0 0 :=
  ⟨cell_of_row _ _ 0 _ _ _ (heap_alloc_new w _), cell_of_row _ _ 1 _ _ _ (heap_alloc_new w _), cell_of_row _ _ 2 _ _ _ (heap_alloc_new w _), frozen_of_row _ _ 1 _ _ (heap_alloc_new w _), frozen_of_row _ _ 2 _ _ (heap_alloc_new w _), Nat.le_refl _, fun i hi => by simp at hi, fun _ => rfl, Nat.le_refl _, by omega, fun g off e => by cases e⟩
/-- The three readers, as they stand ahead of turn t. -/
structure St (w : World) (b1 b2 rb t : Nat) : Prop where
  r1 : t ≤ 1 → RdAt w b1 [] 0 0
  r2 : t ≤ 2 → RdAt w b2 [] 0 0
  c0 : w.cell? ⟨rb, 0, none⟩ = some (.pointer none)
  c1 : w.cell? ⟨rb, 1, none⟩ = some (.pointer (some ⟨b1, 0, none⟩))
  c2 : w.cell? ⟨rb, 2, none⟩ = some (.pointer (some ⟨b2, 0, none⟩))
theorem isQ_new (w : World) : IsQ (w.alloc (.cells #[.slice none 0 0, .int .i64 0, .int .i64 0] 56 (0, 0))) w.heap.size := ⟨_, heap_alloc_new w _⟩

set_option maxHeartbeats 4000000 in
set_option maxRecDepth 100000 in
theorem wire_none (s : Option Addr) (L : List OpV) (cs : Nat) (w : World) (hL : OpsAt w s L) (lL : L.length ≤ 5864062014806) :
    Calls Try.prog 9 #[.slice s L.length cs] w (TrueBelow w) := by
  have HL := Lib.hid hL
  clear hL
  go_enter Try.func9, Try.ntmps9
  go_wp2_with fail
  refine (wire_begun _).mono ?_
  rintro e w1 ⟨rfl, hb⟩
  have B1 := Lib.hid hb
  clear hb
  have R1 := Lib.hid (rd_new w1)
  have A1 := Lib.hid (below_alloc w1 (.cells #[.slice none 0 0, .int .i64 0, .int .i64 0] 65 (0, 0)))
  go_wp2_with fail
  refine (new_reader_own none [] 0 0 _ (fun i hi => by simp at hi) rfl (fun _ => rfl) (by omega)).mono ?_
  rintro x w2 ⟨b2, rfl, hb, hR, hb2, -⟩
  have BB := Lib.hid (show w1.heap.size + 1 ≤ b2 from by have := hb; simpa using this)
  have R2 := Lib.hid hR
  have R1' := Lib.hid (R1.out.on hb2)
  have A2 := Lib.hid (below_trans A1.out hb2)
  clear hb hR hb2
  have hA3 := below_alloc w2 (.cells #[.pointer none, .pointer (some ⟨w1.heap.size, 0, none⟩), .pointer (some ⟨b2, 0, none⟩)] 52 (0, 0))
  have S3 := Lib.hid (show St (w2.alloc (.cells #[.pointer none, .pointer (some ⟨w1.heap.size, 0, none⟩), .pointer (some ⟨b2, 0, none⟩)] 52 (0, 0))) w1.heap.size b2 w2.heap.size 0 from
    ⟨fun _ => R1'.out.on hA3, fun _ => R2.out.on hA3, cell_of_row _ _ 0 _ _ _ (heap_alloc_new w2 _), cell_of_row _ _ 1 _ _ _ (heap_alloc_new w2 _), cell_of_row _ _ 2 _ _ _ (heap_alloc_new w2 _)⟩)
  have A3 := Lib.hid (below_trans A2.out hA3)
  have RB := Lib.hid (show b2 < w2.heap.size ∧ w2.heap.size < (w2.alloc (.cells #[.pointer none, .pointer (some ⟨w1.heap.size, 0, none⟩), .pointer (some ⟨b2, 0, none⟩)] 52 (0, 0))).heap.size from ⟨R2.out.lt, heap_lt (heap_alloc_new w2 _)⟩)
  clear hA3 R1 A1 R2 R1' A2
  go_wp2_with fail
  generalize w2.alloc (.cells #[.pointer none, .pointer (some ⟨w1.heap.size, 0, none⟩), .pointer (some ⟨b2, 0, none⟩)] 52 (0, 0)) = w3 at S3 A3 RB ⊢
  go_loopw [5, 6, 7, 8, 9] (fun i _ _ _ _ wr => ∃ t : Nat, t ≤ 3 ∧ i = .int .i64 t ∧ Hid (St wr w1.heap.size b2 w2.heap.size t) ∧ Below w1.heap.size w1 wr ∧ w2.heap.size < wr.heap.size) (fun i _ _ _ _ _ => 3 - (intOf i).toNat)
  case atStart => exact ⟨0, by omega, rfl, S3, A3.out, RB.out.2⟩
  case round =>
    obtain ⟨t, ht, rfl, hS, hB, hrb⟩ := hrel
    have HB := Lib.hid hB
    have HRB := Lib.hid hrb
    clear hB hrb
    by_cases hlt : t < 3
    · have hlt3 : (t : Int) < 3 := by omega
      have HO := Lib.hid (HL.out.below (below_trans B1.out HB.out))
      have bQ := below_alloc wr (.cells #[.slice none 0 0, .int .i64 0, .int .i64 0] 56 (0, 0))
      have hsz : (wr.alloc (.cells #[.slice none 0 0, .int .i64 0, .int .i64 0] 56 (0, 0))).heap.size = wr.heap.size + 1 := by
        show (wr.heap.push _).size = _
        rw [Array.size_push]
      have hK5 := kept_new (wr.alloc (.cells #[.slice none 0 0, .int .i64 0, .int .i64 0] 56 (0, 0)))
      have bK := below_alloc (wr.alloc (.cells #[.slice none 0 0, .int .i64 0, .int .i64 0] 56 (0, 0))) (.cells #[.slice none 0 0, .int .i64 0] 43 (0, 0))
      rw [hsz] at hK5
      have K5 := Lib.hid hK5
      have BQ := Lib.hid (below_trans bQ bK)
      have Q5 := Lib.hid ((q_new wr).on bK)
      clear hsz hK5 bQ bK
      have hcase : (wr.cell? ⟨w2.heap.size, t, none⟩ = some (.pointer none)) ∨ ∃ b, w1.heap.size ≤ b ∧ b < w2.heap.size ∧ RdAt wr b [] 0 0 ∧ wr.cell? ⟨w2.heap.size, t, none⟩ = some (.pointer (some ⟨b, 0, none⟩)) ∧ (t + 1 ≤ 1 → b ≠ w1.heap.size) ∧ (t + 1 ≤ 2 → b ≠ b2) := by
        have hb2 := RB.out.1
        have hbb := BB.out
        rcases (show t = 0 ∨ t = 1 ∨ t = 2 by omega) with h | h | h
        · subst h; exact .inl hS.out.c0
        · subst h; exact .inr ⟨_, Nat.le_refl _, by omega, hS.out.r1 (by omega), hS.out.c1, fun h => by omega, fun _ => by omega⟩
        · subst h; exact .inr ⟨b2, by omega, hb2, hS.out.r2 (by omega), hS.out.c2, fun h => by omega, fun h => by omega⟩
      rcases hcase with ct | ⟨b, hb1, hb2, hR, ct, hn1, hn2⟩
      · have CT := Lib.hid ct
        have ct5 := cell_keep BQ.out ct
        go_wp2_with fail
        generalize (wr.alloc (.cells #[.slice none 0 0, .int .i64 0, .int .i64 0] 56 (0, 0))).alloc (.cells #[.slice none 0 0, .int .i64 0] 43 (0, 0)) = w5 at K5 BQ Q5 ct5 ⊢
        clear ct5
        obtain ⟨wo, rfl⟩ : ∃ wo : World, wo = wr := ⟨_, rfl⟩
        go_loopw [6, 9] (fun q j w6 => ∃ (e : Nat) (lv : Value) (z : Nat) (xs : List Value), e ≤ L.length ∧ j = .int .i64 e ∧ Kept w6 (wo.heap.size + 1) (wo.heap.size + 1) lv z xs ∧ Hid (Short xs) ∧ Below wo.heap.size wo w6) (fun _ j _ => L.length - (intOf j).toNat)
        case atStart => exact ⟨0, _, 0, [], by omega, rfl, K5.out, Lib.hid short_nil, BQ.out⟩
        case round =>
          clear K5 BQ Q5
          obtain ⟨e, lv, z, xs, he, rfl, hK, hSh, hB6⟩ := hrel
          have K6 := Lib.hid hK
          have B6 := Lib.hid hB6
          clear hK hB6
          by_cases hle : e < L.length
          · obtain ⟨o, ho⟩ : ∃ o, L[e]? = some o := ⟨_, List.getElem?_eq_getElem hle⟩
            obtain ⟨hz, bl, ol, rfl, hc0, hc1, hc2⟩ := HO.out e o ho
            have HZ := Lib.hid hz
            have q7 := q_new wr
            have i7 := isQ_new wr
            have b7 := below_alloc wr (.cells #[.slice none 0 0, .int .i64 0, .int .i64 0] 56 (0, 0))
            have hkb := heap_lt K6.out.box
            have K7 := Lib.hid (K6.out.keep b7)
            have B7 := Lib.hid (below_trans B6.out b7)
            have Q7 := Lib.hid q7
            have I7 := Lib.hid i7
            have Z7 := Lib.hid (show wo.heap.size + 1 ≤ (wr.alloc (.cells #[.slice none 0 0, .int .i64 0, .int .i64 0] 56 (0, 0))).heap.size from Nat.le_trans (Nat.le_of_lt hkb) b7.size)
            have QW := Lib.hid (show wo.heap.size ≤ wr.heap.size from B6.out.size)
            have kr : ∀ p : In (fun w' => Below wo.heap.size wo w'), p.w.cell? ⟨w2.heap.size, t, none⟩ = some (.pointer none) := fun p => cell_keep p.h CT.out
            have ko0 : ∀ p : In (fun w' => Below wo.heap.size wo w'), p.w.cell? ⟨bl, ol + e * 3, none⟩ = some (.int .i64 o.kind) := fun p => cell_keep p.h hc0
            have ko1 : ∀ p : In (fun w' => Below wo.heap.size wo w'), p.w.cell? ⟨bl, ol + e * 3 + 1, none⟩ = some (.int .u64 (bv o.most)) := fun p => cell_keep p.h hc1
            have ko2 : ∀ p : In (fun w' => Below wo.heap.size wo w'), p.w.cell? ⟨bl, ol + e * 3 + 2, none⟩ = some (.int .i64 o.size) := fun p => cell_keep p.h hc2
            clear ho hz q7 i7 b7 hkb
            go_wp2_with fail
            generalize hqn : wr.heap.size = qn at Q7 I7 QW ⊢
            have HQN := Lib.hid hqn
            clear hqn
            generalize wr.alloc (.cells #[.slice none 0 0, .int .i64 0, .int .i64 0] 56 (0, 0)) = w7 at K7 B7 Q7 I7 Z7 ⊢
            refine wp_region_mixed [0, 1, 2, 3, 4, 5, 6, 7, 8, 9, 10, 11, 12, 13, 14, 15, 16, 17, 18, 19, 20, 21, 22, 23, 24, 25, 26, 27] (fun w' => Below wo.heap.size wo w') (by kernel_rfl) (by kernel_rfl) (by intro c a d v w h; cases d <;> exact h) (below_trans B7.out (below_drew _)) ?_
            intro hne
            simp only [pick, List.map_cons, List.map_nil, List.getD_cons_zero, List.getD_cons_succ]
            refine wpMix_reads 10 _ (by kernel_rfl) ?_
            simp only [List.take_succ_cons, List.take_zero, List.drop_succ_cons, List.drop_zero]
            repeat (go_big_quiet_step (fail))
            refine wpQuiet_nil ?_
            refine wpMix_act rfl ?_ rfl
            go_wp2_with fail
            refine (nil_any _ qn (wo.heap.size + 1) (wo.heap.size + 1) lv z xs (Q7.out.on (below_drew _)) (K7.out.keep (below_drew _)) hSh.out (I7.out.keep (below_drew _)) Z7.out o.most o.size o.kind HZ.out).mono ?_
            rintro x w8 ⟨rfl, lv', z', xs', hK, hS', hT⟩
            have K8 := Lib.hid hK
            have S8 := Lib.hid hS'
            have B8 : Hid (Below wo.heap.size wo w8) := Lib.hid (by
              have hb := below_trans B7.out (below_drew w7)
              exact ⟨hT.os.trans hb.os, hT.tape.trans hb.tape, hT.output.trans hb.output, Nat.le_trans hb.size hT.size, fun p hp => (hT.block p (by omega) (by have := QW.out; omega) (by have := QW.out; omega)).trans (hb.block p hp)⟩)
            clear hK hS' hT
            go_wp2_with fail
            refine ⟨⟨⟨_, B8.out⟩, rfl⟩, ?_⟩
            refine wpMix_reads 6 _ (by kernel_rfl) ?_
            simp only [List.take_succ_cons, List.take_zero, List.drop_succ_cons, List.drop_zero]
            repeat (go_big_quiet_step (fail))
            refine wpQuiet_nil ?_
            refine wpMix_act rfl ?_ rfl
            go_wp2_with fail
            refine (left_none _).mono ?_
            rintro x w9 ⟨rfl, hb⟩
            have B9 := Lib.hid (below_trans B8.out hb)
            have K9 := Lib.hid (K8.out.keep hb)
            clear hb
            go_wp2_with fail
            refine ⟨⟨⟨_, B9.out⟩, rfl⟩, ?_⟩
            refine wpMix_reads 7 _ (by kernel_rfl) ?_
            simp only [List.take_succ_cons, List.take_zero, List.drop_succ_cons, List.drop_zero]
            repeat (go_big_quiet_step (fail))
            refine wpQuiet_nil ?_
            refine wpMix_act rfl ?_ rfl
            go_wp2_with fail
            refine (at_none _).mono ?_
            rintro x w10 ⟨rfl, hb⟩
            have B10 := Lib.hid (below_trans B9.out hb)
            have K10 := Lib.hid (K9.out.keep hb)
            clear hb
            go_wp2_with fail
            refine ⟨⟨⟨_, B10.out⟩, rfl⟩, ?_⟩
            refine wpMix_reads 2 _ (by kernel_rfl) ?_
            simp only [List.take_succ_cons, List.take_zero, List.drop_succ_cons, List.drop_zero]
            repeat (go_big_quiet_step (fail))
            refine wpQuiet_nil ?_
            refine wpMix_nil ?_
            clear hne kr ko0 ko1 ko2
            go_wp2_with fail
            go_roundw
            case rel => exact ⟨e + 1, lv', z', xs', by omega, by go_num, K10.out, S8, B10.out⟩
            case measure => simp [intOf]; omega
          · have hge : (L.length : Int) ≤ (e : Int) := by omega
            go_wp2_with fail
            go_roundw
            case rel => exact ⟨t + 1, by omega, by go_num, Lib.hid ⟨fun h => (hS.out.r1 (by omega)).on B6.out, fun h => (hS.out.r2 (by omega)).on B6.out, cell_keep B6.out hS.out.c0, cell_keep B6.out hS.out.c1, cell_keep B6.out hS.out.c2⟩, below_trans HB.out B6.out, Nat.lt_of_lt_of_le HRB.out B6.out.size⟩
            case measure => simp [intOf]; omega
      · have CT := Lib.hid ct
        have D5 : Hid (Duo ((wr.alloc (.cells #[.slice none 0 0, .int .i64 0, .int .i64 0] 56 (0, 0))).alloc (.cells #[.slice none 0 0, .int .i64 0] 43 (0, 0))) b wr.heap.size none 0 [] (wr.heap.size + 1) (wr.heap.size + 1) 0 0 0 0 (.slice none 0 0) 0 []) := Lib.hid ⟨hR.on BQ.out, fun _ _ _ _ _ _ h => absurd rfl h, Q5.out, fun _ _ _ h => absurd rfl h, K5.out, short_nil, by have := HRB.out; omega, by have := HRB.out; omega, by omega, Nat.le_of_lt (heap_lt K5.out.box)⟩
        have S5 := Lib.hid (show St ((wr.alloc (.cells #[.slice none 0 0, .int .i64 0, .int .i64 0] 56 (0, 0))).alloc (.cells #[.slice none 0 0, .int .i64 0] 43 (0, 0))) w1.heap.size b2 w2.heap.size t from ⟨fun h => (hS.out.r1 h).on BQ.out, fun h => (hS.out.r2 h).on BQ.out, cell_keep BQ.out hS.out.c0, cell_keep BQ.out hS.out.c1, cell_keep BQ.out hS.out.c2⟩)
        have O5 := Lib.hid (HO.out.below BQ.out)
        have HB12 := Lib.hid (show w1.heap.size ≤ b ∧ b < w2.heap.size ∧ (t + 1 ≤ 1 → b ≠ w1.heap.size) ∧ (t + 1 ≤ 2 → b ≠ b2) from ⟨hb1, hb2, hn1, hn2⟩)
        have ct5 := cell_keep BQ.out ct
        have C5 := Lib.hid ct5
        have OB : Hid (∀ bl ol, s = some ⟨bl, ol, none⟩ → 0 < L.length → bl < w.heap.size) := Lib.hid fun bl ol e h0 => by
          obtain ⟨_, b', o', e', hc, _⟩ := HL.out 0 _ (List.getElem?_eq_getElem h0)
          rw [e] at e'; injection e' with e'; injection e' with e1 e2; subst e1
          exact block_lt_of_cell hc
        clear hb1 hb2 hR ct hn1 hn2
        go_wp2_with fail
        generalize (wr.alloc (.cells #[.slice none 0 0, .int .i64 0, .int .i64 0] 56 (0, 0))).alloc (.cells #[.slice none 0 0, .int .i64 0] 43 (0, 0)) = w5 at D5 S5 O5 C5 BQ ct5 K5 Q5 ⊢
        clear ct5 K5 Q5
        obtain ⟨wo, rfl⟩ : ∃ wo : World, wo = wr := ⟨_, rfl⟩
        go_loopw [6, 9] (fun q j w6 => ∃ (e k bad : Nat) (lv : Value) (z : Nat) (xs : List Value), e ≤ L.length ∧ j = .int .i64 e ∧ q = .pointer (some ⟨wo.heap.size, 0, none⟩) ∧ Duo w6 b wo.heap.size none 0 [] (wo.heap.size + 1) (wo.heap.size + 1) k bad k bad lv z xs ∧ Touch b wo.heap.size (wo.heap.size + 1) w5 w6) (fun _ j _ => L.length - (intOf j).toNat)
        case atStart => exact ⟨0, 0, 0, _, 0, [], by omega, rfl, rfl, D5.out, ⟨rfl, rfl, rfl, Nat.le_refl _, fun _ _ _ _ => rfl⟩⟩
        case round =>
          clear D5
          obtain ⟨e, k, bad, lv, z, xs, he, rfl, rfl, hD, hT⟩ := hrel
          have D6 := Lib.hid hD
          have T6 := Lib.hid hT
          clear hD hT
          by_cases hle : e < L.length
          · obtain ⟨o, ho⟩ : ∃ o, L[e]? = some o := ⟨_, List.getElem?_eq_getElem hle⟩
            obtain ⟨hz, bl, ol, rfl, hc0, hc1, hc2⟩ := O5.out e o ho
            have HZ := Lib.hid hz
            have hbl := OB.out bl ol rfl (by omega)
            have hw1 := B1.out.size
            have hrb := HRB.out
            have hb12 := HB12.out
            have kr : ∀ p : In (fun w' => Touch b wo.heap.size (wo.heap.size + 1) w5 w'), p.w.cell? ⟨w2.heap.size, t, none⟩ = some (.pointer (some ⟨b, 0, none⟩)) := fun p => ((World.cell?_of_block (a := ⟨w2.heap.size, t, none⟩) (p.h.block w2.heap.size (by omega) (by omega) (by omega))).trans C5.out)
            have ko0 : ∀ p : In (fun w' => Touch b wo.heap.size (wo.heap.size + 1) w5 w'), p.w.cell? ⟨bl, ol + e * 3, none⟩ = some (.int .i64 o.kind) := fun p => ((World.cell?_of_block (a := ⟨bl, ol + e * 3, none⟩) (p.h.block bl (by omega) (by omega) (by omega))).trans hc0)
            have ko1 : ∀ p : In (fun w' => Touch b wo.heap.size (wo.heap.size + 1) w5 w'), p.w.cell? ⟨bl, ol + e * 3 + 1, none⟩ = some (.int .u64 (bv o.most)) := fun p => ((World.cell?_of_block (a := ⟨bl, ol + e * 3 + 1, none⟩) (p.h.block bl (by omega) (by omega) (by omega))).trans hc1)
            have ko2 : ∀ p : In (fun w' => Touch b wo.heap.size (wo.heap.size + 1) w5 w'), p.w.cell? ⟨bl, ol + e * 3 + 2, none⟩ = some (.int .i64 o.size) := fun p => ((World.cell?_of_block (a := ⟨bl, ol + e * 3 + 2, none⟩) (p.h.block bl (by omega) (by omega) (by omega))).trans hc2)
            clear ho hz hbl hw1 hrb hb12
            go_wp2_with fail
            refine wp_region_mixed [0, 1, 2, 3, 4, 5, 6, 7, 8, 9, 10, 11, 12, 13, 14, 15, 16, 17, 18, 19, 20, 21, 22, 23, 24, 25, 26, 27] (fun w' => Touch b wo.heap.size (wo.heap.size + 1) w5 w') (by kernel_rfl) (by kernel_rfl) (by intro c a d v w h; cases d <;> exact h) (T6.out.trans (touch_below ((below_drew _).mono D6.out.size))) ?_
            intro hne
            simp only [pick, List.map_cons, List.map_nil, List.getD_cons_zero, List.getD_cons_succ]
            refine wpMix_reads 10 _ (by kernel_rfl) ?_
            simp only [List.take_succ_cons, List.take_zero, List.drop_succ_cons, List.drop_zero]
            repeat (go_big_quiet_step (fail))
            refine wpQuiet_nil ?_
            have D7 := Lib.hid (D6.out.on (below_drew _))
            have T7 := Lib.hid (T6.out.trans (touch_below ((below_drew _).mono D6.out.size)))
            refine wpMix_act rfl ?_ rfl
            go_wp2_with fail
            refine (one_any _ b wo.heap.size none 0 [] (wo.heap.size + 1) (wo.heap.size + 1) k bad lv z xs D7.out (by simp) o.most o.size o.kind HZ.out).mono ?_
            rintro x w8 ⟨rfl, k', bad', lv', z', xs', hD, hT⟩
            have D8 := Lib.hid hD
            have T8 := Lib.hid (T7.out.trans hT)
            clear hD hT
            go_wp2_with fail
            refine ⟨⟨⟨_, T8.out⟩, rfl⟩, ?_⟩
            refine wpMix_reads 6 _ (by kernel_rfl) ?_
            simp only [List.take_succ_cons, List.take_zero, List.drop_succ_cons, List.drop_zero]
            repeat (go_big_quiet_step (fail))
            refine wpQuiet_nil ?_
            refine wpMix_act rfl ?_ rfl
            go_wp2_with fail
            refine (left_zero b k' bad' _ D8.out.rd).mono ?_
            rintro x w9 ⟨rfl, hb⟩
            have D9 := Lib.hid (D8.out.on hb)
            have T9 := Lib.hid (T8.out.trans (touch_below (hb.mono D8.out.size)))
            clear hb
            go_wp2_with fail
            refine ⟨⟨⟨_, T9.out⟩, rfl⟩, ?_⟩
            refine wpMix_reads 7 _ (by kernel_rfl) ?_
            simp only [List.take_succ_cons, List.take_zero, List.drop_succ_cons, List.drop_zero]
            repeat (go_big_quiet_step (fail))
            refine wpQuiet_nil ?_
            refine wpMix_act rfl ?_ rfl
            go_wp2_with fail
            refine (at_zero b k' bad' _ D9.out.rd).mono ?_
            rintro x w10 ⟨rfl, hb⟩
            have D10 := Lib.hid (D9.out.on hb)
            have T10 := Lib.hid (T9.out.trans (touch_below (hb.mono D9.out.size)))
            clear hb
            go_wp2_with fail
            refine ⟨⟨⟨_, T10.out⟩, rfl⟩, ?_⟩
            refine wpMix_reads 2 _ (by kernel_rfl) ?_
            simp only [List.take_succ_cons, List.take_zero, List.drop_succ_cons, List.drop_zero]
            repeat (go_big_quiet_step (fail))
            refine wpQuiet_nil ?_
            refine wpMix_nil ?_
            clear hne kr ko0 ko1 ko2
            go_wp2_with fail
            go_roundw
            case rel => exact ⟨e + 1, k', bad', lv', z', xs', by omega, by go_num, rfl, D10.out, T10.out⟩
            case measure => simp [intOf]; omega
          · have hge : (L.length : Int) ≤ (e : Int) := by omega
            have hbb := BB.out
            have hr := RB.out.1
            have hrb := HRB.out
            have hb12 := HB12.out
            have hcell : ∀ p j v, p < wo.heap.size → p ≠ b → w5.cell? ⟨p, j, none⟩ = some v → wr.cell? ⟨p, j, none⟩ = some v := fun p j v h1 h2 h3 => (World.cell?_of_block (a := ⟨p, j, none⟩) (T6.out.block p (by omega) h2 (by omega))).trans h3
            have hrd : ∀ p, p < wo.heap.size → p ≠ b → RdAt w5 p [] 0 0 → RdAt wr p [] 0 0 := fun p h1 h2 h3 => h3.congr (T6.out.block p (by omega) h2 (by omega)) (fun _ _ _ _ _ _ h => absurd rfl h)
            have SN : Hid (St wr w1.heap.size b2 w2.heap.size (t + 1)) := Lib.hid ⟨fun h => hrd _ (by omega) (Ne.symm (hb12.2.2.1 h)) (S5.out.r1 (by omega)), fun h => hrd _ (by omega) (Ne.symm (hb12.2.2.2 h)) (S5.out.r2 (by omega)), hcell _ _ _ (by omega) (by omega) S5.out.c0, hcell _ _ _ (by omega) (by omega) S5.out.c1, hcell _ _ _ (by omega) (by omega) S5.out.c2⟩
            have BN : Hid (Below w1.heap.size w1 wr) := Lib.hid (by
              have hb := below_trans HB.out BQ.out
              exact ⟨T6.out.os.trans hb.os, T6.out.tape.trans hb.tape, T6.out.output.trans hb.output, Nat.le_trans hb.size T6.out.size, fun p hp => (T6.out.block p (by omega) (by omega) (by omega)).trans (hb.block p hp)⟩)
            have ZN := Lib.hid (show w2.heap.size < wr.heap.size from Nat.lt_of_lt_of_le hrb (Nat.le_trans BQ.out.size T6.out.size))
            clear hcell hrd hbb hr hrb hb12
            go_wp2_with fail
            go_roundw
            case rel => exact ⟨t + 1, by omega, by go_num, SN, BN.out, ZN.out⟩
            case measure => simp [intOf]; omega
    · have hge : (3 : Int) ≤ (t : Int) := by omega
      go_wp2_with fail
      go_ret
      exact ⟨rfl, below_trans B1.out HB.out⟩
end Go.Proofs.Ytggbhakkgbfneaa

/- The walk of flumelaw6's FrameAll. -/
import Derived.Test.YtfadpjljokpenaaFrameHeads
import Derived.Test.YtfadpjljokpenaaFresh
import Derived.Test.YtfadpjljokpenaaFrameBack
import Derived.Test.YtfadpjljokpenaaOpenRecs
namespace Go.Proofs.Ytfadpjljokpenaa
open Go.RowKit

theorem ref_write_x (s : Int) (seed : BitVec 32) (lsn : Int) (ao : Option Addr) (data : List (BitVec 8)) (n cap : Nat) (w : World) (hs : s = bv seed) (hb : BytesAt w ao data) (hl : data.length = n) (hn : ao = none → cap = 0) (hr : -9223372036854775808 ≤ lsn ∧ lsn ≤ 9223372036854775807) (hm : n ≤ 140737488355328)
    (bytes : List (BitVec 8)) (sum : BitVec 32) (err : Nat) (h : wF seed lsn data = (bytes, sum, err)) :
    Calls Try.prog 20 #[.int .u32 s, .int .i64 lsn, .slice ao n cap] w (WriteB w bytes sum err) := by
  subst hs hl; exact ref_write seed lsn ao data cap w hb hn hr hm bytes sum err h
theorem wF_len {seed : BitVec 32} {lsn : Int} {data bytes : List (BitVec 8)} {sum : BitVec 32} {err : Nat} (h : wF seed lsn data = (bytes, sum, err)) : bytes.length ≤ 4112 := by
  rcases wF_cases seed lsn data with ⟨x, _, _, _, hd, hw⟩ | ⟨e, _, hw⟩
  · rw [hw] at h; injection h with h _; subst h; rw [frameF_len]; omega
  · rw [hw] at h; injection h with h _; subst h; simp
theorem Fresh.but {B c : Nat} {w w' : World} {vs : List Value} (h : Fresh B w vs) (hu : But c w w') (hc : c < B) : Fresh B w' vs :=
  ⟨fun v hv => let ⟨bs, ho, hl⟩ := h.own v hv; ⟨bs, ho.but hu hc, hl⟩, h.apart, Nat.le_trans h.size hu.size⟩
theorem kept_box (w : World) : Kept (w.alloc (.cells #[.slice none 0 0, .int .i64 0] 30 (0, 0))) w.heap.size w.heap.size (.slice none 0 0) 0 [] :=
  ⟨heap_alloc_new w _, Nat.le_refl _, World.ownsRow_nil _ _ _ _, Nat.le_refl _, by omega, fun _ h => absurd h (by simp), List.Pairwise.nil⟩
theorem short_none : Short [] := fun _ h => absurd h (by simp)
theorem apart_kept {w : World} {kb lo z : Nat} {lv : Value} {xs : List Value} (h : Kept w kb lo lv z xs) (hS : Short xs) (hlo : lo ≤ w.heap.size) :
    Calls Try.prog 24 #[.pointer (some ⟨kb, 0, none⟩)] w fun e w' => e = .returned (.bool true) ∧ Below lo w w' := by
  obtain ⟨ao, c, rfl⟩ : ∃ ao c, lv = .slice ao xs.length c := by
    rcases h.list.2 with ⟨rfl, h0⟩ | ⟨g, cap, _, rfl, _⟩
    · exact ⟨none, 0, by rw [h0]⟩
    · exact ⟨_, _, rfl⟩
  exact apart kb lo ao xs.length c z xs w h rfl hS hlo
/-- The cells of a seed and of a record. -/
structure Cells3 (p0 p1 p2 : Addr) (v0 v1 v2 : Value) (w : World) : Prop where
  c0 : w.cell? p0 = some v0
  c1 : w.cell? p1 = some v1
  c2 : w.cell? p2 = some v2
theorem Cells3.on {p0 p1 p2 : Addr} {v0 v1 v2 : Value} {w w' : World} (h : Cells3 p0 p1 p2 v0 v1 v2 w) (hb : Below w.heap.size w w') : Cells3 p0 p1 p2 v0 v1 v2 w' := ⟨cell_keep hb h.c0, cell_keep hb h.c1, cell_keep hb h.c2⟩

set_option maxHeartbeats 8000000 in
set_option maxRecDepth 100000 in
theorem frame_all (a : Option Addr) (L : List RecV) (ca : Nat) (m : Option Addr) (S : List (BitVec 32)) (cm : Nat) (n : Option Addr) (I : List Int) (cn : Nat) (w : World) (hL : RecsAt w a L) (hU : U32sAt w m S) (hI : IntsAt w n I)
    (lL : L.length ≤ 4398046510976) (_lU : S.length ≤ 35184372087808) (lI : I.length ≤ 17592186043904) :
    Calls Try.prog 3 #[.slice a L.length ca, .slice m S.length cm, .slice n I.length cn] w (TrueBelow w) := by
  have HL := Lib.hid hL
  have HU := Lib.hid hU
  have HI := Lib.hid hI
  clear hL hU hI
  go_enter Try.func3, Try.ntmps3
  go_wp2_with fail
  refine (frame_begun _).mono ?_
  rintro e w1 ⟨rfl, hb⟩
  have H1 := Lib.hid hb
  clear hb
  go_wp2_with fail
  go_loopw [7] (fun i wr => ∃ k : Nat, k ≤ I.length ∧ i = .int .i64 k ∧ Below w.heap.size w wr) (fun i _ => I.length - (intOf i).toNat)
  case atStart => exact ⟨0, by omega, rfl, H1.out⟩
  case round =>
    obtain ⟨k, hk, rfl, hb⟩ := hrel
    have HK := Lib.hid hb
    clear hb
    by_cases hlt : k < I.length
    · obtain ⟨hr, b, off, rfl, hc⟩ := (HI.out.below HK.out) k hlt
      obtain ⟨z, hz⟩ : ∃ z, atI I k = z := ⟨_, rfl⟩
      rw [hz] at hc hr
      clear hz hr
      go_wp2_with fail
      go_quiet (first
        | (go_at_call 16; exact (frame_size _ _).mono fun _ _ ⟨he, hw⟩ => ⟨he, _, hw.symm⟩)
        | (go_at_call 17; exact (ref_size _ _).mono fun _ _ ⟨he, hw⟩ => ⟨he, _, hw.symm⟩))
      have H5 : Hid (Below w.heap.size w (wr.drewN nq)) := below_trans HK.out (below_drewN _ _)
      clear hc
      go_wp2_with fail
      go_roundw
      case rel => exact ⟨k + 1, by omega, by go_num, H5.out⟩
      case measure => simp [intOf]; omega
    · have hge : (I.length : Int) ≤ (k : Int) := by omega
      obtain rfl : k = I.length := by omega
      have K1 := Lib.hid (kept_box wr)
      have A1 := Lib.hid (below_alloc wr (.cells #[.slice none 0 0, .int .i64 0] 30 (0, 0)))
      go_wp2_with fail
      obtain ⟨w0, hw0⟩ : ∃ w0 : World, w0 = wr := ⟨_, rfl⟩
      rw [← hw0] at HK K1 A1
      try rw [← hw0]
      clear hw0 hge hlt
      go_loopw [9, 10, 11, 12, 13, 14, 15, 16, 17, 18, 19] (fun i _ _ _ _ _ _ _ _ _ _ wr => ∃ (k : Nat) (lv : Value) (z : Nat) (xs : List Value), k ≤ L.length ∧ i = .int .i64 k ∧ Kept wr w0.heap.size w0.heap.size lv z xs ∧ Hid (Short xs) ∧ Below w0.heap.size w0 wr) (fun i _ _ _ _ _ _ _ _ _ _ _ => L.length - (intOf i).toNat)
      case atStart => exact ⟨0, _, 0, [], by omega, rfl, K1.out, Lib.hid short_none, A1.out⟩
      case round =>
        clear K1 A1
        obtain ⟨k, lv, z, xs, hk, rfl, hK, hS, hb⟩ := hrel
        have KK := Lib.hid hK
        have HB := Lib.hid hb
        clear hK hb
        by_cases hall : k < L.length ∧ k < S.length ∧ k < 30
        · obtain ⟨g1, g2, g3⟩ := hall
          have HW := Lib.hid (below_trans HK.out HB.out)
          obtain ⟨hr, b, off, ai, ci, rfl, h0, h1, hbs, hnil, hle, hci⟩ := HL.out k g1
          obtain ⟨bm, om, rfl, hu⟩ := HU.out k g2
          obtain ⟨⟨lsn, D⟩, hrec⟩ : ∃ r, nthR L k = r := ⟨_, rfl⟩
          obtain ⟨sd, hsd⟩ : ∃ u, at32 S k = u := ⟨_, rfl⟩
          rw [hrec] at hr h0 h1 hbs hle
          rw [hsd] at hu
          dsimp only at hr h0 h1 hbs hle
          have HR := Lib.hid hr
          have HBS := Lib.hid hbs
          have HNil := Lib.hid hnil
          have C0 := Lib.hid (show Cells3 ⟨bm, om + k, none⟩ ⟨b, off + k * 2, none⟩ ⟨b, off + k * 2 + 1, none⟩ (.int .u32 (bv sd)) (.int .i64 lsn) (.slice ai D.length ci) wr from ⟨cell_keep HW.out hu, cell_keep HW.out h0, cell_keep HW.out h1⟩)
          obtain ⟨F, Su, E, hW⟩ : ∃ F Su E, wF sd lsn D = (F, Su, E) := ⟨_, _, _, rfl⟩
          have WF := Lib.hid hW
          have FL := Lib.hid (wF_len hW)
          have LW := Lib.hid (show w.heap.size ≤ w0.heap.size from HK.out.size)
          have e1 := C0.out.c2
          clear hr hbs hnil hu h0 h1 hrec hsd hW
          go_wp2_with fail
          refine (lent ai D ci _ (HBS.out.below HW.out) HNil.out (by omega)).mono ?_
          rintro e w3 ⟨g, cap, rfl, hc2, hcm, hM⟩
          have HM := Lib.hid hM
          have HC2 := Lib.hid hc2
          have HCM := Lib.hid hcm
          have GL : Hid (g < w3.heap.size) := block_lt_of_cell (hM.bytes 0 (by simp))
          have C3 := Lib.hid (C0.out.on hM.below)
          have F3 := Lib.hid (Fresh.nil w3)
          clear hM hcm e1 C0 hc2
          have q0 : ∀ p : In (Cells3 ⟨bm, om + k, none⟩ ⟨b, off + k * 2, none⟩ ⟨b, off + k * 2 + 1, none⟩ (.int .u32 (bv sd)) (.int .i64 lsn) (.slice ai D.length ci)), p.w.cell? ⟨bm, om + k, none⟩ = some (.int .u32 (bv sd)) := fun p => p.h.c0
          have q1 : ∀ p : In (Cells3 ⟨bm, om + k, none⟩ ⟨b, off + k * 2, none⟩ ⟨b, off + k * 2 + 1, none⟩ (.int .u32 (bv sd)) (.int .i64 lsn) (.slice ai D.length ci)), p.w.cell? ⟨b, off + k * 2, none⟩ = some (.int .i64 lsn) := fun p => p.h.c1
          have q2 : ∀ p : In (Cells3 ⟨bm, om + k, none⟩ ⟨b, off + k * 2, none⟩ ⟨b, off + k * 2 + 1, none⟩ (.int .u32 (bv sd)) (.int .i64 lsn) (.slice ai D.length ci)), p.w.cell? ⟨b, off + k * 2 + 1, none⟩ = some (.slice ai D.length ci) := fun p => p.h.c2
          go_wp2_with fail
          refine wp_region_mixed [0, 1, 2, 3, 4, 5, 6, 7, 8, 9, 10, 11, 12, 13, 14, 15, 16, 17] (Cells3 ⟨bm, om + k, none⟩ ⟨b, off + k * 2, none⟩ ⟨b, off + k * 2 + 1, none⟩ (.int .u32 (bv sd)) (.int .i64 lsn) (.slice ai D.length ci)) (by kernel_rfl) (by kernel_rfl) (by intro c a d v w h; cases d <;> exact h) (C3.out.on (below_drew _)) ?_
          intro hne
          simp only [pick, List.map_cons, List.map_nil, List.getD_cons_zero, List.getD_cons_succ]
          refine wpMix_reads 10 _ (by kernel_rfl) ?_
          simp only [List.take_succ_cons, List.take_zero, List.drop_succ_cons, List.drop_zero]
          repeat (go_big_quiet_step (fail))
          refine wpQuiet_nil ?_
          have M3 := Lib.hid (HM.out.on (below_drew w3))
          refine wpMix_act rfl ?_ rfl
          go_wp2_with fail
          refine (frame_write_x _ sd lsn (some ⟨g, 0, none⟩) D _ cap _ rfl M3.out.front rfl (fun h => by cases h) HR.out (by omega) _ _ _ WF.out).mono ?_
          rintro e w4 ⟨v4, rfl, hO, hb⟩
          have F4 := Lib.hid ((F3.out.keep (below_drew _)).snoc hb hO (by have := FL.out; omega))
          have C4 := Lib.hid (C3.out.on (below_trans (below_drew _) hb))
          have M4 := Lib.hid (M3.out.on hb)
          have O4 := Lib.hid (show OwnB w4 w3.heap.size v4 F from hO)
          clear hO hb M3
          obtain ⟨a4, c4, hv4, -, -, -, -, -⟩ := O4.out.slice
          subst hv4
          go_wp2_with fail
          refine ⟨⟨⟨_, C4.out⟩, rfl⟩, ?_⟩
          refine wpMix_reads 7 _ (by kernel_rfl) ?_
          simp only [List.take_succ_cons, List.take_zero, List.drop_succ_cons, List.drop_zero]
          repeat (go_big_quiet_step (fail))
          refine wpQuiet_nil ?_
          refine wpMix_nil ?_
          clear hne
          go_wp2_with fail
          refine wp_region_mixed [0, 1, 2, 3, 4, 5, 6, 7, 8, 9, 10, 11, 12, 13, 14, 15, 16, 17, 18, 19, 20, 21] (Cells3 ⟨bm, om + k, none⟩ ⟨b, off + k * 2, none⟩ ⟨b, off + k * 2 + 1, none⟩ (.int .u32 (bv sd)) (.int .i64 lsn) (.slice ai D.length ci)) (by kernel_rfl) (by kernel_rfl) (by intro c a d v w h; cases d <;> exact h) (C4.out.on (below_drew _)) ?_
          intro hne
          simp only [pick, List.map_cons, List.map_nil, List.getD_cons_zero, List.getD_cons_succ]
          refine wpMix_reads 14 _ (by kernel_rfl) ?_
          simp only [List.take_succ_cons, List.take_zero, List.drop_succ_cons, List.drop_zero]
          repeat (go_big_quiet_step (fail))
          refine wpQuiet_nil ?_
          refine wpMix_act rfl ?_ rfl
          go_wp2_with fail
          refine (ref_write_x _ sd lsn ai D _ ci _ rfl ((HBS.out.below HW.out).below (below_trans M4.out.below (below_drew _))) rfl HNil.out HR.out (by omega) _ _ _ WF.out).mono ?_
          rintro e w5 ⟨v5, rfl, hO, hb⟩
          have F5 := Lib.hid (F4.out.keep (below_trans (below_drew _) hb))
          have C5 := Lib.hid (C4.out.on (below_trans (below_drew _) hb))
          have M5 := Lib.hid (M4.out.on (below_trans (below_drew _) hb))
          have O45 := Lib.hid (O4.out.keep (below_trans (below_drew _) hb))
          have S4 := Lib.hid (show w3.heap.size ≤ w4.heap.size from F4.out.size)
          have O5 := Lib.hid (show OwnB w5 w3.heap.size v5 F from hO.base S4.out)
          clear hO hb M4 O4 F4 C4
          obtain ⟨a5, c5, hv5, -, -, -, -, -⟩ := O5.out.slice
          subst hv5
          go_wp2_with fail
          refine ⟨⟨⟨_, C5.out⟩, rfl⟩, ?_⟩
          refine wpMix_reads 7 _ (by kernel_rfl) ?_
          simp only [List.take_succ_cons, List.take_zero, List.drop_succ_cons, List.drop_zero]
          repeat (go_big_quiet_step (fail))
          refine wpQuiet_nil ?_
          refine wpMix_nil ?_
          clear hne
          go_wp2_with fail
          refine wp_region_mixed [0, 1, 2, 3, 4, 5, 6, 7, 8, 9, 10, 11, 12, 13, 14, 15, 16, 17, 18, 19, 20, 21] (Cells3 ⟨bm, om + k, none⟩ ⟨b, off + k * 2, none⟩ ⟨b, off + k * 2 + 1, none⟩ (.int .u32 (bv sd)) (.int .i64 lsn) (.slice ai D.length ci)) (by kernel_rfl) (by kernel_rfl) (by intro c a d v w h; cases d <;> exact h) (C5.out.on (below_drew _)) ?_
          intro hne
          simp only [pick, List.map_cons, List.map_nil, List.getD_cons_zero, List.getD_cons_succ]
          refine wpMix_reads 14 _ (by kernel_rfl) ?_
          simp only [List.take_succ_cons, List.take_zero, List.drop_succ_cons, List.drop_zero]
          repeat (go_big_quiet_step (fail))
          refine wpQuiet_nil ?_
          refine wpMix_act rfl ?_ rfl
          go_wp2_with fail
          refine (frame_write_x _ sd lsn ai D _ ci _ rfl ((HBS.out.below HW.out).below (below_trans M5.out.below (below_drew _))) rfl HNil.out HR.out (by omega) _ _ _ WF.out).mono ?_
          rintro e w6 ⟨v6, rfl, hO, hb⟩
          have F6 := Lib.hid ((F5.out.keep (below_drew _)).snoc hb hO (by have := FL.out; omega))
          have C6 := Lib.hid (C5.out.on (below_trans (below_drew _) hb))
          have M6 := Lib.hid (M5.out.on (below_trans (below_drew _) hb))
          have O46 := Lib.hid (O45.out.keep (below_trans (below_drew _) hb))
          have O56 := Lib.hid (O5.out.keep (below_trans (below_drew _) hb))
          clear hb M5 O45 O5 F5 C5
          obtain ⟨a6, c6, hv6, -, -, -, -, -⟩ := hO.slice
          subst hv6
          clear hO
          go_wp2_with fail
          refine ⟨⟨⟨_, C6.out⟩, rfl⟩, ?_⟩
          refine wpMix_reads 7 _ (by kernel_rfl) ?_
          simp only [List.take_succ_cons, List.take_zero, List.drop_succ_cons, List.drop_zero]
          repeat (go_big_quiet_step (fail))
          refine wpQuiet_nil ?_
          refine wpMix_nil ?_
          clear hne q0 q1 q2
          obtain ⟨a4', c4', hva, x4, -, -, -, n4⟩ := O46.out.slice
          injection hva with ea1 ea2 ea3
          subst ea1 ea3
          clear ea2
          obtain ⟨a5', c5', hva, x5, -, -, -, n5⟩ := O56.out.slice
          injection hva with ea1 ea2 ea3
          subst ea1 ea3
          clear ea2
          have X4 := Lib.hid x4
          have X5 := Lib.hid x5
          have N4 := Lib.hid n4
          have N5 := Lib.hid n5
          have e1 := C6.out.c2
          clear x4 x5 n4 n5 O46 O56
          go_wp2_with fail
          refine (eq_bytes_of a4 a5 _ _ _ _ c4 c5 true _ X4.out X5.out rfl rfl (by have := FL.out; omega) (decide_eq_true rfl)).mono ?_
          rintro e w7 ⟨rfl, n7, hw7⟩
          have b7 : Below w6.heap.size w6 w7 := by rw [hw7]; exact below_drewN _ _
          have M7 := Lib.hid (M6.out.on b7)
          have F7 := Lib.hid (F6.out.keep b7)
          have X47 := Lib.hid (X4.out.below b7)
          have X57 := Lib.hid (X5.out.below b7)
          have e2 := cell_keep b7 e1
          clear hw7 b7 M6 F6 X4 X5 e1 C6
          go_wp2_with fail
          refine (back_but wr g cap ai D ci _ M7.out HC2.out HCM.out (fun w' hw' => (HBS.out.below HW.out).but M7.out.below hw' M7.out.own)).mono ?_
          rintro e w8 ⟨rfl, hb8⟩
          have B8 := Lib.hid (show Below wr.heap.size wr w8 from hb8.below M7.out.below M7.out.own M7.out.below.size)
          have F8 := Lib.hid (F7.out.but hb8 GL.out)
          have X48 := Lib.hid (show BytesAt w8 a4 F from hb8.bytes X47.out (fun g' off e h => by have := (N4.out g' off e).1; have := GL.out; omega))
          have X58 := Lib.hid (show BytesAt w8 a5 F from hb8.bytes X57.out (fun g' off e h => by have := (N5.out g' off e).1; have := GL.out; omega))
          have SB := Lib.hid (show wr.heap.size ≤ w3.heap.size from HM.out.below.size)
          clear hb8 F7 X47 X57 M7 e2 HM
          go_wp2_with fail
          refine (eq_bytes_of a4 a5 _ _ _ _ c4 c5 true _ X48.out X58.out rfl rfl (by have := FL.out; omega) (decide_eq_true rfl)).mono ?_
          rintro e w9 ⟨rfl, n9, hw9⟩
          have b9 : Below w8.heap.size w8 w9 := by rw [hw9]; exact below_drewN _ _
          have F9 := Lib.hid (show Fresh w3.heap.size w9 [.slice a4 F.length c4, .slice a6 F.length c6] from F8.out.keep b9)
          have B9 := Lib.hid (below_trans B8.out b9)
          clear hw9 b9 F8 B8 X48 X58
          have hbA : Below w9.heap.size w9 (w9.alloc (.cells #[.slice a4 F.length c4, .slice a6 F.length c6] 31 (0, 0))) := below_alloc _ _
          have SW := Lib.hid (show w0.heap.size ≤ wr.heap.size from HB.out.size)
          have CM := Lib.hid (show Come (w9.alloc (.cells #[.slice a4 F.length c4, .slice a6 F.length c6] 31 (0, 0))) w0.heap.size w9.heap.size xs [.slice a4 F.length c4, .slice a6 F.length c6] 0 from F9.out.come KK.out SB.out (Nat.le_trans SW.out SB.out))
          have K9 := Lib.hid (KK.out.keep (below_trans B9.out hbA))
          have D9 := Lib.hid (HB.out.trans ((below_trans B9.out hbA).mono HB.out.size))
          have KB := Lib.hid (show w0.heap.size ≠ w9.heap.size by have := heap_lt KK.out.box; have := B9.out.size; omega)
          have KL := Lib.hid (show lv.ownBlock ≠ some w9.heap.size from fun e => by obtain ⟨_, _, hc⟩ := rows_blk KK.out.list e; have := heap_lt hc; have := B9.out.size; omega)
          clear hbA F9
          go_wp2_with fail
          refine (keep w0.heap.size w0.heap.size w9.heap.size 2 lv z xs [.slice a4 F.length c4, .slice a6 F.length c6] _ K9.out CM.out KB.out KL.out (by simp) D9.out.size hS.out).mono ?_
          rintro e w10 ⟨rfl, lv', z', xs', hK, hB, -, -, hS'⟩
          have K10 := Lib.hid hK
          have B10 := Lib.hid (D9.out.trans hB)
          have S10 := Lib.hid hS'
          clear hK hB hS'
          go_wp2_with fail
          go_roundw
          case rel => exact ⟨k + 1, lv', z', xs', by omega, by go_num, K10.out, S10, B10.out⟩
          case measure => simp [intOf]; omega
        · by_cases h1 : k < L.length
          · by_cases h2 : k < S.length
            · have h3 : ¬ ((k : Int) < 30) := by omega
              go_wp2_with fail
              refine (apart_kept KK.out hS.out HB.out.size).mono ?_
              rintro e w2 ⟨rfl, hb2⟩
              have B2 := Lib.hid (HB.out.trans hb2)
              clear hb2
              go_wp2_with fail
              go_ret
              exact ⟨rfl, below_trans HK.out B2.out⟩
            · have h2' : ¬ ((k : Int) < (S.length : Int)) := by omega
              go_wp2_with fail
              refine (apart_kept KK.out hS.out HB.out.size).mono ?_
              rintro e w2 ⟨rfl, hb2⟩
              have B2 := Lib.hid (HB.out.trans hb2)
              clear hb2
              go_wp2_with fail
              go_ret
              exact ⟨rfl, below_trans HK.out B2.out⟩
          · have h1' : ¬ ((k : Int) < (L.length : Int)) := by omega
            go_wp2_with fail
            refine (apart_kept KK.out hS.out HB.out.size).mono ?_
            rintro e w2 ⟨rfl, hb2⟩
            have B2 := Lib.hid (HB.out.trans hb2)
            clear hb2
            go_wp2_with fail
            go_ret
            exact ⟨rfl, below_trans HK.out B2.out⟩
end Go.Proofs.Ytfadpjljokpenaa

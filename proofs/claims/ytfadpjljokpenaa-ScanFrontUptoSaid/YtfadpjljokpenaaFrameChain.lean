/- The walk of flumelaw6's FrameChain. -/
import Derived.Test.YtfadpjljokpenaaFrameAll
namespace Go.Proofs.Ytfadpjljokpenaa
open Go.RowKit

/-- The seed behind k frames, and the bytes. -/
def cS (S0 : BitVec 32) (Y : Nat) (B : List (List (BitVec 8))) : Nat → BitVec 32
  | 0 => S0
  | k + 1 => sumF (cS S0 Y B k) (BitVec.ofNat 64 (Y + k)) (nth B k)
def cB (H : List (BitVec 8)) (S0 : BitVec 32) (Y : Nat) (B : List (List (BitVec 8))) : Nat → List (BitVec 8)
  | 0 => H
  | k + 1 => cB H S0 Y B k ++ frameF (cS S0 Y B k) (BitVec.ofNat 64 (Y + k)) (nth B k)
theorem cB_len (H : List (BitVec 8)) (S0 : BitVec 32) (Y : Nat) (B : List (List (BitVec 8))) : ∀ k, (∀ i, i < k → (nth B i).length ≤ 4096) → (cB H S0 Y B k).length ≤ H.length + k * 4112
  | 0, _ => by simp [cB]
  | k + 1, h => by
    have h1 := cB_len H S0 Y B k (fun i hi => h i (by omega))
    have h2 := h k (by omega)
    rw [cB, List.length_append, frameF_len]
    omega
theorem cB_front (H : List (BitVec 8)) (S0 : BitVec 32) (Y : Nat) (B : List (List (BitVec 8))) (k : Nat) : ∀ j, ∃ T, cB H S0 Y B (k + j) = cB H S0 Y B k ++ T
  | 0 => ⟨[], by simp⟩
  | j + 1 => by
    obtain ⟨T, hT⟩ := cB_front H S0 Y B k j
    exact ⟨T ++ frameF (cS S0 Y B (k + j)) (BitVec.ofNat 64 (Y + (k + j))) (nth B (k + j)), by rw [show k + (j + 1) = (k + j) + 1 from rfl, cB, hT, List.append_assoc]⟩
theorem cB_read (H : List (BitVec 8)) (S0 : BitVec 32) (Y : Nat) (B : List (List (BitVec 8))) (n k : Nat) (hk : k < n) (hd : (nth B k).length ≤ 4096) (h1 : 1 ≤ Y + k) (h2 : Y + k ≤ 9223372036854775806) :
    rF (cS S0 Y B k) ((cB H S0 Y B n).drop (cB H S0 Y B k).length) = ⟨BitVec.ofNat 64 (Y + k), nth B k, 16 + (nth B k).length, cS S0 Y B (k + 1), 0⟩ ∧ (cB H S0 Y B (k + 1)).length = (cB H S0 Y B k).length + (16 + (nth B k).length) ∧ (cB H S0 Y B k).length + 16 ≤ (cB H S0 Y B n).length := by
  obtain ⟨T, hT⟩ := cB_front H S0 Y B (k + 1) (n - (k + 1))
  rw [show k + 1 + (n - (k + 1)) = n by omega] at hT
  have e : cB H S0 Y B n = cB H S0 Y B k ++ (frameF (cS S0 Y B k) (BitVec.ofNat 64 (Y + k)) (nth B k) ++ T) := by rw [hT, cB, List.append_assoc]
  refine ⟨?_, by rw [cB, List.length_append, frameF_len], by rw [e, List.length_append, List.length_append, frameF_len]; omega⟩
  rw [e, List.drop_left]
  have hx : (BitVec.ofNat 64 (Y + k)).toNat = Y + k := by rw [BitVec.toNat_ofNat]; exact Nat.mod_eq_of_lt (by omega)
  exact rF_front _ _ _ T hd (by omega) (by omega)
theorem wF_at {seed : BitVec 32} {Y k : Nat} {D : List (BitVec 8)} (h1 : 1 ≤ Y + k) (h2 : Y + k ≤ 9223372036854775806) (hd : D.length ≤ 4096) : wF seed ((Y : Int) + (k : Int)) D = (frameF seed (BitVec.ofNat 64 (Y + k)) D, sumF seed (BitVec.ofNat 64 (Y + k)) D, 0) := by
  unfold wF
  rw [if_neg (by omega), if_neg (by omega)]
  have e : BitVec.ofInt 64 ((Y : Int) + (k : Int)) = BitVec.ofNat 64 (Y + k) := by rw [← Int.natCast_add, BitVec.ofInt_natCast]
  rw [e]
theorem wF_long {seed : BitVec 32} {Y k : Nat} {D : List (BitVec 8)} (h1 : 1 ≤ Y + k) (h2 : Y + k ≤ 9223372036854775806) (hd : 4096 < D.length) : wF seed ((Y : Int) + (k : Int)) D = ([], 0#32, 3) := by
  unfold wF
  rw [if_neg (by omega), if_pos hd]
theorem bv_at {Y k : Nat} (h : Y + k < 18446744073709551616) : bv (BitVec.ofNat 64 (Y + k)) = (Y : Int) + (k : Int) := by
  rw [bv_ofNat (n := 64) h]; omega
theorem frame_size_to (n m : Int) (w : World) (h : sizeI n = m) : Calls Try.prog 16 #[.int .i64 n] w fun e w' => e = .returned (.int .i64 m) ∧ w = w' := by
  subst h; exact frame_size n w
/-- A head in block g. -/
structure HIn (w : World) (g : Nat) (num base : Int) (seed : BitVec 32) : Prop where
  c0 : w.cell? ⟨g, 0, none⟩ = some (.int .i64 num)
  c1 : w.cell? ⟨g, 1, none⟩ = some (.int .i64 base)
  c2 : w.cell? ⟨g, 2, none⟩ = some (.int .u32 (bv seed))
theorem HIn.on {w w' : World} {g C : Nat} {num base : Int} {seed : BitVec 32} (h : HIn w g num base seed) (hb : Below C w w') (hg : g < C) : HIn w' g num base seed :=
  ⟨(hb.cell (p := ⟨g, 0, none⟩) hg).trans h.c0, (hb.cell (p := ⟨g, 1, none⟩) hg).trans h.c1, (hb.cell (p := ⟨g, 2, none⟩) hg).trans h.c2⟩

set_option maxHeartbeats 8000000 in
set_option maxRecDepth 100000 in
theorem frame_chain (num base : Int) (seed : BitVec 32) (s : Option Addr) (B : List (List (BitVec 8))) (cs : Nat) (w : World) (hk : HeadOk ⟨num, base, seed⟩) (hB : ListsAt w s B) (lB : B.length ≤ 5864062014806) :
    Calls Try.prog 7 #[.agg #[.int .i64 num, .int .i64 base, .int .u32 (bv seed)], .slice s B.length cs] w (TrueBelow w) := by
  have HB := Lib.hid hB
  have HOK := Lib.hid hk
  have X0 := Lib.hid (headBox_new w num base seed)
  clear hB hk
  go_enter Try.func7, Try.ntmps7
  go_wp2_with fail
  refine (frame_begun _).mono ?_
  rintro e w1 ⟨rfl, hb⟩
  have X1 := Lib.hid (X0.out.on hb)
  clear hb X0
  have c0 := X1.out.c0
  have c1 := X1.out.c1
  by_cases h1 : num < 1
  · go_wp2_with fail
    go_ret
    exact ⟨rfl, X1.out.below⟩
  by_cases h2 : base < 1
  · go_wp2_with fail
    go_ret
    exact ⟨rfl, X1.out.below⟩
  by_cases h3 : 1152921504606846976 < base
  · go_wp2_with fail
    go_ret
    exact ⟨rfl, X1.out.below⟩
  by_cases h4 : 100 < B.length
  · have h4' : 100 < (B.length : Int) := by omega
    go_wp2_with fail
    go_ret
    exact ⟨rfl, X1.out.below⟩
  have h4' : ¬ 100 < (B.length : Int) := by omega
  obtain ⟨Y, rfl⟩ : ∃ Y : Nat, base = (Y : Int) := ⟨base.toNat, by omega⟩
  obtain ⟨X, rfl⟩ : ∃ X : Nat, num = (X : Int) := ⟨num.toNat, by omega⟩
  have HX : Hid (1 ≤ X ∧ X ≤ 9223372036854775807) := Lib.hid (by have := HOK.out.1; dsimp only at this; omega)
  have HY : Hid (1 ≤ Y ∧ Y ≤ 1152921504606846976) := Lib.hid (by omega)
  obtain ⟨H, S0, hW, hR, hHl⟩ : ∃ H S0, wH ⟨(X : Int), (Y : Int), seed⟩ = (H, S0, 0) ∧ (∀ T, rH (H ++ T) = ⟨BitVec.ofNat 64 X, BitVec.ofNat 64 Y, seed, S0, 0⟩) ∧ H.length = 32 := by
    refine ⟨headH (BitVec.ofNat 64 X) (BitVec.ofNat 64 Y) seed, Crc.sum (bareH (BitVec.ofNat 64 X) (BitVec.ofNat 64 Y) seed), ?_, fun T => ?_, headH_len _ _ _⟩
    · unfold wH
      dsimp only
      rw [if_neg (by omega), BitVec.ofInt_natCast, BitVec.ofInt_natCast]
    · have := HX.out
      have := HY.out
      exact rH_front _ _ _ T (by rw [BitVec.toNat_ofNat]; omega) (by rw [BitVec.toNat_ofNat]; omega)
  have WHd := Lib.hid hW
  have RHd := Lib.hid hR
  have LH := Lib.hid hHl
  have c2 := X1.out.c2
  have K1 := Lib.hid (show HIn w1 w.heap.size (X : Int) (Y : Int) seed from ⟨c0, c1, c2⟩)
  have WS := Lib.hid (show w.heap.size < w1.heap.size from X1.out.size)
  clear hW hR hHl
  go_wp2_with fail
  refine (write_head_x (X : Int) (Y : Int) _ seed _ rfl HOK.out.1 HOK.out.2 _ _ _ WHd.out).mono ?_
  rintro e w2 ⟨v2, rfl, hO, hb⟩
  have O2 := Lib.hid (show OwnB w2 w1.heap.size v2 (cB H S0 Y B 0) from hO)
  have K2 := Lib.hid (K1.out.on hb WS.out)
  have BW2 := Lib.hid (show Below w1.heap.size w1 w2 from hb)
  have bvs : bv S0 = bv (cS S0 Y B 0) := rfl
  rw [bvs]
  clear hO hb c0 c1 c2 K1 bvs
  go_wp2_with fail
  go_loopw [5, 6, 8, 9, 10, 11] (fun bb ss i _ _ _ wr => ∃ k : Nat, k ≤ B.length ∧ i = .int .i64 k ∧ ss = .int .u32 (bv (cS S0 Y B k)) ∧ Hid (OwnB wr w1.heap.size bb (cB H S0 Y B k)) ∧ Hid (∀ i, i < k → (nth B i).length ≤ 4096) ∧ HIn wr w.heap.size (X : Int) (Y : Int) seed ∧ Below w1.heap.size w1 wr) (fun _ _ i _ _ _ _ => B.length - (intOf i).toNat)
  case atStart => exact ⟨0, by omega, rfl, rfl, O2, Lib.hid (fun i hi => by omega), K2.out, BW2.out⟩
  case round =>
    clear O2 K2 BW2
    obtain ⟨k, hk, rfl, rfl, hO, hD, hK, hb⟩ := hrel
    have KH := Lib.hid hK
    have HK := Lib.hid hb
    have BW := Lib.hid (show Below w.heap.size w wr from below_trans X1.out.below (hb.mono (Nat.le_refl _)))
    clear hK hb
    by_cases hlt : k < B.length
    · obtain ⟨b, off, ai, ci, rfl, hc, hbs, hnil, hle, hci⟩ := (HB.out.below BW.out) k hlt
      have HBS := Lib.hid hbs
      have HNil := Lib.hid hnil
      obtain ⟨D, hDk⟩ : ∃ D, nth B k = D := ⟨_, rfl⟩
      rw [hDk] at HBS hc hle
      have HDK := Lib.hid hDk
      have LR : Hid (-9223372036854775808 ≤ (Y : Int) + (k : Int) ∧ (Y : Int) + (k : Int) ≤ 9223372036854775807) := Lib.hid (by have := HY.out; omega)
      have lr1 : -9223372036854775808 ≤ (Y : Int) + (k : Int) := LR.out.1
      have lr2 : (Y : Int) + (k : Int) ≤ 9223372036854775807 := LR.out.2
      have CC := Lib.hid (show Cells3 ⟨w.heap.size, 1, none⟩ ⟨b, off + k, none⟩ ⟨b, off + k, none⟩ (.int .i64 (Y : Int)) (.slice ai D.length ci) (.slice ai D.length ci) wr from ⟨KH.out.c1, hc, hc⟩)
      obtain ⟨F, Su, E, hWF, hcase⟩ : ∃ F Su E, wF (cS S0 Y B k) ((Y : Int) + (k : Int)) D = (F, Su, E) ∧ ((D.length ≤ 4096 ∧ F = frameF (cS S0 Y B k) (BitVec.ofNat 64 (Y + k)) D ∧ Su = sumF (cS S0 Y B k) (BitVec.ofNat 64 (Y + k)) D ∧ E = 0) ∨ (4096 < D.length ∧ E = 3)) := by
        have := HY.out
        by_cases hd : D.length ≤ 4096
        · exact ⟨_, _, _, wF_at (by omega) (by omega) hd, .inl ⟨hd, rfl, rfl, rfl⟩⟩
        · exact ⟨_, _, _, wF_long (by omega) (by omega) (by omega), .inr ⟨by omega, rfl⟩⟩
      have WF := Lib.hid hWF
      have HC := Lib.hid hcase
      have FL := Lib.hid (wF_len hWF)
      have q0 : ∀ p : In (Cells3 ⟨w.heap.size, 1, none⟩ ⟨b, off + k, none⟩ ⟨b, off + k, none⟩ (.int .i64 (Y : Int)) (.slice ai D.length ci) (.slice ai D.length ci)), p.w.cell? ⟨w.heap.size, 1, none⟩ = some (.int .i64 (Y : Int)) := fun p => p.h.c0
      have q1 : ∀ p : In (Cells3 ⟨w.heap.size, 1, none⟩ ⟨b, off + k, none⟩ ⟨b, off + k, none⟩ (.int .i64 (Y : Int)) (.slice ai D.length ci) (.slice ai D.length ci)), p.w.cell? ⟨b, off + k, none⟩ = some (.slice ai D.length ci) := fun p => p.h.c1
      clear hbs hnil hc hDk hWF hcase
      go_wp2_with fail
      refine wp_region_mixed [0, 1, 2, 3, 4, 5, 6, 7, 8, 9, 10, 11, 12, 13, 14, 15, 16] (Cells3 ⟨w.heap.size, 1, none⟩ ⟨b, off + k, none⟩ ⟨b, off + k, none⟩ (.int .i64 (Y : Int)) (.slice ai D.length ci) (.slice ai D.length ci)) (by kernel_rfl) (by kernel_rfl) (by intro c a d v w h; cases d <;> exact h) (CC.out.on (below_drew _)) ?_
      intro hne
      simp only [pick, List.map_cons, List.map_nil, List.getD_cons_zero, List.getD_cons_succ]
      refine wpMix_reads 9 _ (by kernel_rfl) ?_
      simp only [List.take_succ_cons, List.take_zero, List.drop_succ_cons, List.drop_zero]
      repeat (go_big_quiet_step (fail))
      refine wpQuiet_nil ?_
      refine wpMix_act rfl ?_ rfl
      go_wp2_with fail
      refine (frame_write_x _ (cS S0 Y B k) _ ai D _ ci _ rfl (HBS.out.below (below_drew _)) rfl HNil.out LR.out (by omega) _ _ _ WF.out).mono ?_
      rintro e w4 ⟨v4, rfl, hO4, hb⟩
      have b4 := below_trans (below_drew wr) hb
      have C4 := Lib.hid (CC.out.on b4)
      obtain ⟨a4, c4, rfl, x4, n4, -, -, -⟩ := hO4.slice
      have X4 := Lib.hid x4
      have N4 := Lib.hid n4
      have O4 := Lib.hid (hO.out.keep b4)
      have HK4 := Lib.hid (HK.out.trans (b4.mono HK.out.size))
      have KH4 := Lib.hid (KH.out.on (b4.mono HK.out.size) WS.out)
      clear hO4 hb b4 x4 n4 hO HK KH CC BW
      go_wp2_with fail
      refine ⟨⟨⟨_, C4.out⟩, rfl⟩, ?_⟩
      refine wpMix_reads 7 _ (by kernel_rfl) ?_
      simp only [List.take_succ_cons, List.take_zero, List.drop_succ_cons, List.drop_zero]
      repeat (go_big_quiet_step (fail))
      refine wpQuiet_nil ?_
      refine wpMix_nil ?_
      clear hne q0 q1
      have e1 := C4.out.c1
      rcases HC.out with ⟨hd, rfl, rfl, rfl⟩ | ⟨hd, rfl⟩
      · have hd' : (D.length : Int) ≤ 4096 := by omega
        clear HC
        go_wp2_with (refine wpList_append_bytes (o := ⟨some 81, _, _, _, _, _⟩) rfl _ _ rfl w1.heap.size _ (cB H S0 Y B k) rfl O4.out a4 _ c4 _ rfl rfl X4.out N4.out (by have := cB_len H S0 Y B k hD.out; have := FL.out; rw [LH.out] at *; omega) HK4.out.size ?_)
        intro v5 w5 hv hg hi
        have O5 := Lib.hid (show OwnB w5 w1.heap.size v5 (cB H S0 Y B (k + 1)) from by rw [cB, HDK.out]; exact hv)
        have b5 := O4.out.below hg (Nat.le_refl _) HK4.out.size
        have HK5 := Lib.hid (HK4.out.trans b5)
        have KH5 := Lib.hid (KH4.out.on b5 WS.out)
        have HD5 : Hid (∀ i, i < k + 1 → (nth B i).length ≤ 4096) := Lib.hid fun i hi => by
          by_cases e : i = k
          · subst e; rw [HDK.out]; exact hd
          · exact hD.out i (by omega)
        have ES : bv (sumF (cS S0 Y B k) (BitVec.ofNat 64 (Y + k)) D) = bv (cS S0 Y B (k + 1)) := by rw [cS, HDK.out]
        rw [ES]
        clear hv hg hi b5 O4 HK4 KH4 X4 N4 e1 ES
        go_wp2_with fail
        go_roundw
        case rel => exact ⟨k + 1, by omega, by go_num, rfl, O5, HD5, KH5.out, HK5.out⟩
        case measure => simp [intOf]; omega
      · have hd' : ¬ (D.length : Int) ≤ 4096 := by omega
        go_wp2_with fail
        go_ret
        exact ⟨rfl, below_trans X1.out.below HK4.out⟩
    · have hge : (B.length : Int) ≤ (k : Int) := by omega
      obtain rfl : k = B.length := by omega
      obtain ⟨T, hT⟩ := cB_front H S0 Y B 0 B.length
      rw [Nat.zero_add] at hT
      have RR : Hid (rH (cB H S0 Y B B.length) = ⟨BitVec.ofNat 64 X, BitVec.ofNat 64 Y, seed, S0, 0⟩) := Lib.hid (by rw [hT]; exact RHd.out T)
      have HRD : Hid (∀ k, k < B.length → rF (cS S0 Y B k) ((cB H S0 Y B B.length).drop (cB H S0 Y B k).length) = ⟨BitVec.ofNat 64 (Y + k), nth B k, 16 + (nth B k).length, cS S0 Y B (k + 1), 0⟩ ∧ (cB H S0 Y B (k + 1)).length = (cB H S0 Y B k).length + (16 + (nth B k).length) ∧ (cB H S0 Y B k).length + 16 ≤ (cB H S0 Y B B.length).length) := Lib.hid fun k hk => cB_read H S0 Y B B.length k hk (hD.out k hk) (by have := HY.out; omega) (by have := HY.out; omega)
      have LFULL := Lib.hid (cB_len H S0 Y B B.length hD.out)
      have L32 : Hid (32 ≤ (cB H S0 Y B B.length).length) := Lib.hid (by rw [hT, List.length_append]; show 32 ≤ H.length + _; rw [LH.out]; omega)
      obtain ⟨full, hfull⟩ : ∃ full, cB H S0 Y B B.length = full := ⟨_, rfl⟩
      have HFU := Lib.hid hfull
      rw [hfull] at RR HRD LFULL L32 hO
      obtain ⟨a5, c5, rfl, x5, n5, l5, m5, -⟩ := hO.out.slice
      obtain ⟨gb, o5, ha5, -⟩ := x5 0 (by have := L32.out; omega)
      subst ha5
      have XB := Lib.hid x5
      have lf : full.length ≤ 412032 := by have := LFULL.out; rw [LH.out] at this; omega
      have EX : bv (BitVec.ofNat 64 X) = (X : Int) := by have := HX.out; rw [bv_ofNat (n := 64) (by omega)]
      have EY : bv (BitVec.ofNat 64 Y) = (Y : Int) := by have := HY.out; rw [bv_ofNat (n := 64) (by omega)]
      have FX := Lib.hid EX
      have FY := Lib.hid EY
      have BWr := Lib.hid (show Below w.heap.size w wr from below_trans X1.out.below HK.out)
      clear hT hfull x5 EX EY hO hlt hge
      go_wp2_with fail
      refine (read_head_x _ full _ c5 _ XB.out rfl l5 m5 _ RR.out).mono ?_
      rintro e w5 ⟨he, hb⟩
      dsimp only at he
      rw [FX.out, FY.out] at he
      subst he
      have b5 := below_trans hb (below_alloc w5 (.cells #[.int .i64 (X : Int), .int .i64 (Y : Int), .int .u32 (bv seed)] 50))
      have G5 := headBox_new w5 (X : Int) (Y : Int) seed
      have K5 := Lib.hid (KH.out.on (b5.mono HK.out.size) WS.out)
      have XB5 := Lib.hid (XB.out.below b5)
      have BW5 := Lib.hid (below_trans BWr.out b5)
      have g0 := G5.c0
      have g1 := G5.c1
      have g2 := G5.c2
      have k0 := K5.out.c0
      have k1 := K5.out.c1
      have k2 := K5.out.c2
      obtain ⟨w6, hw6⟩ : ∃ w6, w5.alloc (.cells #[.int .i64 (X : Int), .int .i64 (Y : Int), .int .u32 (bv seed)] 50) = w6 := ⟨_, rfl⟩
      rw [hw6] at K5 XB5 BW5 g0 g1 g2 k0 k1 k2
      have WS6 := Lib.hid (show w.heap.size < w6.heap.size from block_lt_of_cell k0)
      clear b5 hb G5 XB BWr KH HK
      go_wp2_with fail
      clear g0 g1 g2 k0 k1 k2 hw6
      rw [show (32 : Int) = ((cB H S0 Y B 0).length : Nat) from by show _ = ((H.length : Nat) : Int); rw [LH.out]; rfl, show bv S0 = bv (cS S0 Y B 0) from rfl]
      go_loopw [13, 14, 15, 16, 17, 18, 19] (fun rr aa i _ _ _ _ wr => ∃ k : Nat, k ≤ B.length ∧ i = .int .i64 k ∧ rr = .int .u32 (bv (cS S0 Y B k)) ∧ aa = .int .i64 ((cB H S0 Y B k).length : Nat) ∧ Below w6.heap.size w6 wr) (fun _ _ i _ _ _ _ _ => B.length - (intOf i).toNat)
      case atStart => exact ⟨0, by omega, rfl, rfl, rfl, Below.refl _ _⟩
      case round =>
        obtain ⟨k, hk, rfl, rfl, rfl, hb⟩ := hrel
        have HK := Lib.hid hb
        clear hb
        by_cases hlt : k < B.length
        · obtain ⟨b, off, ai, ci, rfl, hc, hbs, hnil, hle, hci⟩ := (HB.out.below (below_trans BW5.out HK.out)) k hlt
          obtain ⟨hrf, hnx, hin⟩ := HRD.out k hlt
          have hd4 := hD.out k hlt
          obtain ⟨D, hDk⟩ : ∃ D, nth B k = D := ⟨_, rfl⟩
          obtain ⟨A, hA⟩ : ∃ A, (cB H S0 Y B k).length = A := ⟨_, rfl⟩
          rw [hDk] at hrf hnx hd4 hbs hc hle
          rw [hA] at hrf hnx hin
          rw [hA]
          have HBS := Lib.hid hbs
          have RF := Lib.hid hrf
          have NX := Lib.hid hnx
          have XD := Lib.hid ((XB5.out.below HK.out).drop A)
          have EL : Hid (bv (BitVec.ofNat 64 (Y + k)) = (Y : Int) + (k : Int)) := Lib.hid (bv_at (by have := HY.out; omega))
          have lr1 : -9223372036854775808 ≤ (Y : Int) + (k : Int) := by omega
          have lr2 : (Y : Int) + (k : Int) ≤ 9223372036854775807 := by have := HY.out; omega
          have kc : ¬ c5 = A := by omega
          have kl : A ≤ full.length := by omega
          have SZ : Hid (sizeI (D.length : Int) = 16 + (D.length : Int)) := Lib.hid (by unfold sizeI; rw [if_neg (by omega)])
          clear hbs hrf hnx hDk hA
          go_wp2_with fail
          refine (frame_read_x _ (cS S0 Y B k) _ (full.drop A) _ (c5 - A) _ rfl XD.out (List.length_drop) (fun h => by cases h) (by omega) (by omega) _ RF.out).mono ?_
          rintro e w7 ⟨v7, he, hO7, hb⟩
          dsimp only at he hO7
          rw [EL.out] at he
          obtain ⟨a7, c7, rfl, x7, -, -, -, -⟩ := hO7.slice
          subst he
          have b7 := below_trans hb (below_alloc w7 (.cells #[.int .i64 ((Y : Int) + (k : Int)), .slice a7 D.length c7] 34))
          have R7 := rec_new w7 ((Y : Int) + (k : Int)) (.slice a7 D.length c7)
          have X7 := Lib.hid (x7.below (below_alloc w7 (.cells #[.int .i64 ((Y : Int) + (k : Int)), .slice a7 D.length c7] 34)))
          have HK7 := Lib.hid (below_trans HK.out b7)
          have XI7 := Lib.hid (HBS.out.below b7)
          have r0 := cell_regrown R7.c0
          have r1 := cell_regrown R7.c1
          have k1 := cell_regrown ((K5.out.on HK7.out WS6.out).c1)
          have d1 := cell_regrown (cell_keep b7 hc)
          obtain ⟨w8, hw8⟩ : ∃ w8, w7.alloc (.cells #[.int .i64 ((Y : Int) + (k : Int)), .slice a7 D.length c7] 34) = w8 := ⟨_, rfl⟩
          rw [hw8] at r0 r1 k1 d1 X7 XI7 HK7
          clear b7 hb R7 x7 hO7 hc
          go_wp2_with fail
          refine wp_region_quiet_below (by kernel_rfl) (by kernel_rfl) ?_
          repeat (go_big_quiet_step (first
            | (go_at_call 21; exact Calls.regrown_of ((eq_bytes_of a7 ai D D _ _ c7 ci true _ (X7.out.below (below_regrown _ _ _)) (XI7.out.below (below_regrown _ _ _)) rfl rfl (by omega) (decide_eq_true rfl)).mono fun _ _ ⟨he, n, hw⟩ => ⟨he, hw ▸ below_drewN _ _⟩))
            | (go_at_call 16; exact Calls.same_of (frame_size_to _ _ _ SZ.out))))
          refine wpQuiet_nil ?_
          intro w9 hw9
          obtain ⟨⟨nq, osq⟩, hw9'⟩ := hw9
          have H9 : Hid (Below w6.heap.size w6 w9) := by rw [hw9']; exact below_trans HK7.out (below_regrown _ _ _)
          clear hw9' r0 r1 k1 d1 hw8
          go_wp2_with fail
          go_roundw
          case rel => exact ⟨k + 1, by omega, by go_num, rfl, by rw [NX.out]; go_num, H9.out⟩
          case measure => simp [intOf]; omega
        · have hge : (B.length : Int) ≤ (k : Int) := by omega
          obtain rfl : k = B.length := by omega
          rw [HFU.out]
          go_wp2_with fail
          go_ret
          exact ⟨rfl, below_trans BW5.out HK.out⟩
end Go.Proofs.Ytfadpjljokpenaa

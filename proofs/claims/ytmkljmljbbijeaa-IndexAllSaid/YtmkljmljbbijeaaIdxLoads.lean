/- The walk of flumelaw9.IndexLoads. -/
import Derived.Test.YtmkljmljbbijeaaIdxBegun
import Derived.Test.YtmkljmljbbijeaaIdxEq
import Derived.Test.YtmkljmljbbijeaaPlainRl
import Derived.Test.YtmkljmljbbijeaaWireReads
import Derived.Test.YtmkljmljbbijeaaBackBut
namespace Go.Proofs.Ytmkljmljbbijeaa
open Go.RowKit

theorem IdxAt.but {w w' : World} {base xb g n ca : Nat} {X : IdxV} {ao : Option Addr} (h : IdxAt w base xb X ao n ca) (hu : But g w w') (hg : g < base) : IdxAt w' base xb X ao n ca :=
  h.move fun q hq => hu.block q (idx_low h q hq) (by
    rcases hq with rfl | hq
    · have := h.low; omega
    · have := (held_blk h.held hq).1; omega)
theorem RefAt.but {w w' : World} {base yb g n ca : Nat} {X : IdxV} {ao : Option Addr} (h : RefAt w base yb X ao n ca) (hu : But g w w') (hg : g < base) : RefAt w' base yb X ao n ca :=
  h.move fun q hq => hu.block q (ref_low h q hq) (by
    rcases hq with rfl | hq
    · have := h.low; omega
    · have := (rows_blk h.own hq).1; omega)
def CellR (b o : Nat) (v : Value) (w : World) : Prop := w.cell? ⟨b, o, none⟩ = some v

set_option maxHeartbeats 3000000 in
set_option maxRecDepth 100000 in
theorem idx_loads (a : Option Addr) (L : List (List (BitVec 8))) (ca : Nat) (w : World) (hL : ListsAt w a L) (lL : L.length ≤ 5864062014806) :
    Calls Try.prog 8 #[.slice a L.length ca] w (TrueBelow w) := by
  have HL := Lib.hid hL
  clear hL
  go_enter Try.func8, Try.ntmps8
  go_wp2_with fail
  refine (idx_begun _).mono ?_
  rintro e w1 ⟨rfl, hb⟩
  have H1 := Lib.hid hb
  clear hb
  go_wp2_with fail
  go_loopw [3] (fun i wr => ∃ k : Nat, k ≤ L.length ∧ k ≤ 40 ∧ i = .int .i64 k ∧ Below w.heap.size w wr) (fun i _ => L.length - (intOf i).toNat)
  case atStart => exact ⟨0, by omega, by omega, rfl, H1.out⟩
  case round =>
    obtain ⟨k, hk, hk40, rfl, hb⟩ := hrel
    have HK := Lib.hid hb
    clear hb
    by_cases hlt : k < L.length
    · by_cases h40 : k < 40
      · obtain ⟨b, off, ai, ci, rfl, hc, hbs, hnil, hle, hci⟩ := (HL.out.below HK.out) k hlt
        obtain ⟨D, hD⟩ : ∃ D, nth L k = D := ⟨_, rfl⟩
        rw [hD] at hc hbs hle
        obtain ⟨r, er, hr⟩ : ∃ r er, idxR D = (r, er) := ⟨_, _, rfl⟩
        have HB := Lib.hid hbs
        have HNil := Lib.hid hnil
        have HLe := Lib.hid hle
        have HC := Lib.hid hc
        have HR := Lib.hid hr
        have HCI := Lib.hid hci
        clear hbs hnil hr hD
        go_wp2_with fail
        refine (lent ai D ci _ HB.out HNil.out (by omega)).mono ?_
        rintro x w2 ⟨g, cap, rfl, hc2, hcm, hM⟩
        have HM := Lib.hid hM
        have HC2 := Lib.hid hc2
        have HCM := Lib.hid hcm
        have GL : Hid (g < w2.heap.size) := block_lt_of_cell (HM.out.bytes 0 (by simp))
        clear hM hcm hc hc2 hle hci
        go_wp2_with fail
        refine (idx_load (some ⟨g, 0, none⟩) D _ cap w2 HM.out.front rfl (by have := HC2.out; omega) (by have := HLe.out; have := HCI.out; omega)).mono ?_
        rw [HR.out]
        rintro x w3 (⟨h0, rfl, hb3⟩ | ⟨h0, hok, xb, ao, n, cx, rfl, hat, hb3⟩)
        · dsimp only at h0
          have H0 := Lib.hid h0
          have B3 := Lib.hid hb3
          have M3 := Lib.hid (HM.out.on hb3)
          have c3 := cell_keep M3.out.below HC.out
          clear h0 hb3
          dsimp only
          go_wp2_with fail
          refine (ref_load ai D _ ci w3 (HB.out.below M3.out.below) rfl HLe.out (by have := HCI.out; omega) (by have := HLe.out; have := HCI.out; omega)).mono ?_
          rw [HR.out]
          rintro x w4 (⟨-, rfl, hb4⟩ | ⟨h0, -⟩)
          rotate_left
          · exact absurd h0 H0.out
          · have M4 := Lib.hid (M3.out.on hb4)
            have c4 := cell_keep M4.out.below HC.out
            have t1 : ((er : Int) != 0) = true := by have := H0.out; simp; omega
            have t2 : ((er : Int) == 0) = false := by have := H0.out; simp; omega
            have t3 : decide ((er : Int) = 0) = false := by have := H0.out; simp; omega
            clear hb4 c3
            dsimp only
            go_wp2_with fail
            refine (back_but wr g cap ai D ci _ M4.out HC2.out HCM.out (fun w' hw' => HB.out.but M4.out.below hw' M4.out.own)).mono ?_
            rintro x w5 ⟨rfl, hb5⟩
            have B5 := Lib.hid (show Below wr.heap.size wr w5 from hb5.below M4.out.below M4.out.own M4.out.below.size)
            have K5 := Lib.hid (below_trans HK.out B5.out)
            clear hb5 c4
            go_wp2_with fail
            go_quiet (fail)
            go_wp2_with fail
            go_roundw
            case rel => exact ⟨k + 1, by omega, by omega, by go_num, below_trans K5.out (below_drewN _ _)⟩
            case measure => simp [intOf]; omega
        · obtain rfl : er = 0 := h0
          have B3 := Lib.hid hb3
          have M3 := Lib.hid (HM.out.on hb3)
          have c3 := cell_keep M3.out.below HC.out
          have OK := Lib.hid hok.ok
          have X3 := Lib.hid hat
          clear hb3 hok hat
          dsimp only
          go_wp2_with fail
          refine (ref_load ai D _ ci w3 (HB.out.below M3.out.below) rfl HLe.out (by have := HCI.out; omega) (by have := HLe.out; have := HCI.out; omega)).mono ?_
          rw [HR.out]
          rintro x w4 (⟨h0, -⟩ | ⟨-, -, yb, ay, ny, cy, rfl, hat, hb4⟩)
          · exact absurd rfl h0
          · have M4 := Lib.hid (M3.out.on hb4)
            have c4 := cell_keep M4.out.below HC.out
            have X4 := Lib.hid (X3.out.keep hb4)
            have Y4 := Lib.hid hat
            have Z3 := Lib.hid B3.out.size
            clear hb4 c3 hat
            dsimp only
            go_wp2_with fail
            refine (back_but wr g cap ai D ci _ M4.out HC2.out HCM.out (fun w' hw' => HB.out.but M4.out.below hw' M4.out.own)).mono ?_
            rintro x w5 ⟨rfl, hb5⟩
            have B5 := Lib.hid (show Below wr.heap.size wr w5 from hb5.below M4.out.below M4.out.own M4.out.below.size)
            have K5 := Lib.hid (below_trans HK.out B5.out)
            have X5 := Lib.hid (X4.out.but hb5 GL.out)
            have Y5 := Lib.hid (Y4.out.but hb5 (by have := GL.out; have := Z3.out; omega))
            clear hb5 c4
            have q0 : ∀ p : In (CellR b (off + k) (.slice ai D.length ci)), p.w.cell? ⟨b, off + k, none⟩ = some (.slice ai D.length ci) := fun p => p.h
            have CD := Lib.hid (show ∀ w', Below wr.heap.size wr w' → CellR b (off + k) (.slice ai D.length ci) w' from fun w' h => cell_keep h HC.out)
            go_wp2_with fail
            refine wp_region_mixed [0, 1, 2, 3, 4, 5, 6, 7, 8, 10, 11, 12, 13, 9, 14, 15, 16, 17] (CellR b (off + k) (.slice ai D.length ci)) (by kernel_rfl) (by kernel_rfl) (by intro c a d v w h; cases d <;> exact h) (CD.out _ (below_trans B5.out (below_drew _))) ?_
            intro hne
            simp only [pick, List.map_cons, List.map_nil, List.getD_cons_zero, List.getD_cons_succ]
            refine wpMix_reads 5 _ (by kernel_rfl) ?_
            simp only [List.take_succ_cons, List.take_zero, List.drop_succ_cons, List.drop_zero]
            repeat (go_big_quiet_step (fail))
            refine wpQuiet_nil ?_
            refine wpMix_act rfl ?_ rfl
            go_wp2_with fail
            refine (idx_same w2.heap.size xb w3.heap.size yb n cx ny cy r ao ay w5.drew (Lib.hid (X5.out.keep (below_drew _))) (Lib.hid (Y5.out.keep (below_drew _))) OK).mono ?_
            rintro x w6 ⟨rfl, hb6⟩
            have bq := below_trans (below_drew w5) hb6
            have B6 := Lib.hid (below_trans B5.out bq)
            have X6 := Lib.hid (X5.out.keep bq)
            clear hb6 bq
            go_wp2_with fail
            refine ⟨⟨⟨_, CD.out _ B6.out⟩, rfl⟩, ?_⟩
            refine wpMix_reads 7 _ (by kernel_rfl) ?_
            simp only [List.take_succ_cons, List.take_zero, List.drop_succ_cons, List.drop_zero]
            repeat (go_big_quiet_step (fail))
            refine wpQuiet_nil ?_
            refine wpMix_act rfl ?_ rfl
            go_wp2_with fail
            refine (idx_bytes w2.heap.size xb n cx r ao w6 X6 OK).mono ?_
            rintro x w7 ⟨v7, rfl, ho7, hb7⟩
            obtain ⟨a7, c7, rfl, x7, n7, -⟩ := ho7.slice
            rw [idxR_forth HR.out] at x7 ⊢
            have B7 := Lib.hid (below_trans B6.out hb7)
            have A7 := Lib.hid x7
            clear ho7 hb7 x7 n7
            go_wp2_with fail
            refine ⟨⟨⟨_, CD.out _ B7.out⟩, rfl⟩, ?_⟩
            refine wpMix_act rfl ?_ rfl
            go_wp2_with fail
            refine (eq_bytes_of a7 ai D D _ _ _ ci true _ A7.out (HB.out.below B7.out) rfl rfl (by have := HLe.out; have := HCI.out; omega) (decide_eq_true rfl)).mono ?_
            rintro x w8 ⟨rfl, n8, hw8⟩
            have B8 := Lib.hid (show Below wr.heap.size wr w8 from below_trans B7.out (by rw [hw8]; exact below_drewN _ _))
            have K8 := Lib.hid (below_trans HK.out B8.out)
            clear hw8
            go_wp2_with fail
            refine ⟨⟨⟨_, CD.out _ B8.out⟩, rfl⟩, ?_⟩
            refine wpMix_reads 3 _ (by kernel_rfl) ?_
            simp only [List.take_succ_cons, List.take_zero, List.drop_succ_cons, List.drop_zero]
            repeat (go_big_quiet_step (fail))
            refine wpQuiet_nil ?_
            refine wpMix_nil ?_
            clear hne q0
            go_wp2_with fail
            go_roundw
            case rel => exact ⟨k + 1, by omega, by omega, by go_num, K8.out⟩
            case measure => simp [intOf]; omega
      · obtain rfl : k = 40 := by omega
        go_wp2_with fail
        go_ret
        exact ⟨rfl, HK.out⟩
    · have hge : (L.length : Int) ≤ (k : Int) := by omega
      go_wp2_with fail
      go_ret
      exact ⟨rfl, HK.out⟩
end Go.Proofs.Ytmkljmljbbijeaa

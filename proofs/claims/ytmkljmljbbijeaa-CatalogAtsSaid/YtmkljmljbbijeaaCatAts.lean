/- The walk of flumelaw10.CatalogAts. -/
import Derived.Test.YtmkljmljbbijeaaCatBegun
namespace Go.Proofs.Ytmkljmljbbijeaa
open Go.RowKit

set_option maxRecDepth 100000 in
set_option maxHeartbeats 4000000 in
theorem cat_ats (gen first by_ : Int) (ao : Option Addr) (n ca : Nat) (L : List SegV) (w : World) (hn : L.length = n) (hA : CatAt w (.agg #[.int .i64 gen, .int .i64 first, .slice ao n ca]) ⟨gen, first, L⟩) (hby : R64 by_) :
    Calls Try.prog 6 #[.agg #[.int .i64 gen, .int .i64 first, .slice ao n ca], .int .i64 by_] w fun e w' => e = .returned (.bool true) ∧ Below w.heap.size w w' := by
  obtain ⟨ao', ca', e1, hsg, hle, hcm, hnil⟩ := hA.shape
  injection e1 with e1
  simp only [Array.mk.injEq, List.cons.injEq, Value.slice.injEq, and_true, true_and] at e1
  obtain ⟨rfl, -, rfl⟩ := e1
  dsimp only at hsg hle hcm
  obtain ⟨fr1, fr2⟩ := hA.first
  dsimp only at fr1 fr2
  obtain ⟨by1, by2⟩ := hby
  have b1 := below_alloc w (.cells #[.int .i64 gen, .int .i64 first, .slice ao n ca] 29)
  have hn1 := heap_alloc_new w (.cells #[.int .i64 gen, .int .i64 first, .slice ao n ca] 29)
  obtain ⟨w1, hw1⟩ : ∃ w1, w.alloc (.cells #[.int .i64 gen, .int .i64 first, .slice ao n ca] 29) = w1 := ⟨_, rfl⟩
  rw [hw1] at b1 hn1
  have HC := Lib.hid hn1
  have HB := Lib.hid b1
  have HA := Lib.hid (hA.below b1)
  have HS := Lib.hid (hsg.below b1)
  have HN := Lib.hid hn
  clear b1 hn1 hA hsg hnil hn
  obtain ⟨t, ht⟩ : ∃ t : Bool, t = true ↔ MayC ⟨gen, first, L⟩ := by
    by_cases h : MayC ⟨gen, first, L⟩
    · exact ⟨true, by simp [h]⟩
    · exact ⟨false, by simp [h]⟩
  have HT := Lib.hid ht
  clear ht
  go_enter Try.func6, Try.ntmps6
  go_wp2_with fail
  refine (cat_begun w1).mono ?_
  rintro e w2 ⟨rfl, hb2⟩
  have B2 := Lib.hid hb2
  have c2 := (hb2.block _ (heap_lt HC.out)).trans HC.out
  have d0 := cell_of_row _ _ 0 _ _ _ c2
  have d1 := cell_of_row _ _ 1 _ _ _ c2
  have d2 := cell_of_row _ _ 2 _ _ _ c2
  clear hb2 c2
  go_wp2_with fail
  refine (cat_may _ _ w2 (HA.out.below B2.out) t HT.out).mono ?_
  rintro e w3 ⟨rfl, hb3⟩
  have B3 := Lib.hid (below_trans B2.out hb3)
  have c3 := (B3.out.block _ (heap_lt HC.out)).trans HC.out
  clear hb3 d0 d1 d2
  have d0 := cell_of_row _ _ 0 _ _ _ c3
  have d1 := cell_of_row _ _ 1 _ _ _ c3
  have d2 := cell_of_row _ _ 2 _ _ _ c3
  clear c3
  cases t
  · have NM : Hid (¬ MayC ⟨gen, first, L⟩) := Lib.hid (fun h => absurd (HT.out.2 h) (by simp))
    go_wp2_with fail
    refine (cat_at gen first by_ ao n ca L w3 HN.out (HA.out.below B3.out)).mono ?_
    rintro e w4 ⟨i, ok, hI, rfl, hb4⟩
    obtain ⟨rfl, rfl⟩ : ok = false ∧ i = 0 := by
      rcases hI with ⟨h, -⟩ | ⟨-, h1, h2⟩
      · exact absurd h NM.out
      · exact ⟨h1, h2⟩
    have B4 := Lib.hid (below_trans B3.out hb4)
    have c4 := (B4.out.block _ (heap_lt HC.out)).trans HC.out
    clear hb4 hI d0 d1 d2
    have d0 := cell_of_row _ _ 0 _ _ _ c4
    have d1 := cell_of_row _ _ 1 _ _ _ c4
    have d2 := cell_of_row _ _ 2 _ _ _ c4
    clear c4
    go_wp2_with fail
    refine (cat_write_no gen first ao n ca L w4 (HA.out.below B4.out) NM.out).mono ?_
    rintro e w5 ⟨rfl, hb5⟩
    have B5 := Lib.hid (below_trans HB.out (below_trans B4.out hb5))
    clear hb5 d0 d1 d2
    go_wp2_with fail
    go_ret
    exact ⟨rfl, B5.out⟩
  · have M := Lib.hid (HT.out.1 rfl)
    have hm0 : 1 ≤ n ∧ n ≤ 64 := by have h3 := M.out.some; have h4 := M.out.few; have := HN.out; dsimp only at h3 h4; omega
    obtain ⟨m, rfl⟩ : ∃ m, n = m + 1 := ⟨n - 1, by omega⟩
    have hm : m < 64 := by omega
    clear hm0
    have hf1 : 1 ≤ first := M.out.first
    have BB := Lib.hid (below_trans HB.out B3.out)
    by_cases q1 : 0 ≤ by_
    · by_cases q2 : by_ ≤ 1000
      · obtain ⟨-, b, off, rfl, -⟩ := HS.out 0 (by rw [HN.out]; omega)
        go_wp2_with fail
        go_loopw [10] (fun i wr => ∃ k : Nat, k ≤ m + 1 ∧ i = .int .i64 k ∧ Hid (Below w1.heap.size w1 wr)) (fun i _ => m + 1 - (intOf i).toNat)
        case atStart => exact ⟨0, Nat.zero_le _, rfl, B3⟩
        case round =>
          obtain ⟨k, hk, rfl, HW⟩ := hrel
          have c4 := (HW.out.block _ (heap_lt HC.out)).trans HC.out
          have d0 := cell_of_row _ _ 0 _ _ _ c4
          have d1 := cell_of_row _ _ 1 _ _ _ c4
          have d2 := cell_of_row _ _ 2 _ _ _ c4
          by_cases hlt : k < m + 1
          · obtain ⟨ok, e0, e1, e2, e3, e4⟩ := (HS.out.below HW.out).get (i := k) (by have := HN.out; omega)
            have ok1 := ok.base
            obtain ⟨o1, o2⟩ := ok1
            have bp : 1 ≤ (nthS L k).base := M.out.base_pos k (by have := HN.out; dsimp only; omega)
            clear ok c4
            have kz : (k : Int) ≤ (m : Int) := by omega
            by_cases q3 : (nthS L k).base + by_ ≤ 9223372036854775807
            · obtain ⟨lsn, hlsn⟩ : ∃ lsn, (nthS L k).base + by_ = lsn := ⟨_, rfl⟩
              have q4 : (nthS L k).base ≤ lsn := by omega
              have q5 : lsn ≤ 9223372036854775807 := by omega
              go_wp2_with fail
              refine (cat_at gen first lsn (some ⟨b, off, none⟩) (m + 1) ca L wr HN.out (HA.out.below HW.out)).mono ?_
              rintro e w5 ⟨i, ok, hI, rfl, hb5⟩
              have W5 := Lib.hid (below_trans HW.out hb5)
              have c5 := (W5.out.block _ (heap_lt HC.out)).trans HC.out
              clear hb5 d0 d1 d2 e0 e1 e2 e3 e4
              have d0 := cell_of_row _ _ 0 _ _ _ c5
              have d1 := cell_of_row _ _ 1 _ _ _ c5
              have d2 := cell_of_row _ _ 2 _ _ _ c5
              clear c5
              rcases hI with ⟨-, h1, rfl, h2⟩ | ⟨h1, rfl, rfl⟩
              · dsimp only at h1
                obtain ⟨h3, h4, h5⟩ := h2
                dsimp only at h3 h4 h5
                have hi : i < m + 1 := by have := HN.out; omega
                have hiz : (i : Int) < (m : Int) + 1 := by omega
                have t1 : decide (first ≤ lsn) = true := decide_eq_true h1
                obtain ⟨-, e0, e1, e2, e3, e4⟩ := (HS.out.below W5.out).get (i := i) (by have := HN.out; omega)
                have E5 := Lib.hid h5
                clear h5 h3
                by_cases q6 : i < m
                · have h6 : lsn < (nthS L i).end_ := by
                    have h7 := (M.out.link i (by have := HN.out; dsimp only; omega)).2.2.2
                    have h8 := E5.out (i + 1) (by omega) (by have := HN.out; omega)
                    dsimp only at h7
                    omega
                  have q7 : (i : Int) < (m : Int) := by omega
                  go_wp2_with fail
                  go_roundw
                  case rel => exact ⟨k + 1, by omega, by go_num, W5.out⟩
                  case measure => simp [intOf]; omega
                · have q7 : ¬ (i : Int) < (m : Int) := by omega
                  go_wp2_with fail
                  go_roundw
                  case rel => exact ⟨k + 1, by omega, by go_num, W5.out⟩
                  case measure => simp [intOf]; omega
              · have h2 : ¬ first ≤ lsn := fun h => h1 ⟨M.out, h⟩
                have t1 : decide (first ≤ lsn) = false := decide_eq_false h2
                clear h1
                go_wp2_with fail
                go_roundw
                case rel => exact ⟨k + 1, by omega, by go_num, W5.out⟩
                case measure => simp [intOf]; omega
            · have hwr : wrap64 ((nthS L k).base + by_) < (nthS L k).base := by unfold wrap64; omega
              go_wp2_with fail
              go_ret
              exact ⟨rfl, below_trans HB.out HW.out⟩
          · obtain rfl : k = m + 1 := by omega
            have hf2 : (first - 1) < first := by omega
            clear hlt hk
            go_wp2_with fail
            refine (cat_at gen first (first - 1) (some ⟨b, off, none⟩) (m + 1) ca L wr HN.out (HA.out.below HW.out)).mono ?_
            rintro e w4 ⟨i, ok, hI, rfl, hb4⟩
            obtain ⟨rfl, rfl⟩ : ok = false ∧ i = 0 := by
              rcases hI with ⟨-, h, -⟩ | ⟨-, h1, h2⟩
              · dsimp only at h; omega
              · exact ⟨h1, h2⟩
            have B5 := Lib.hid (below_trans HB.out (below_trans HW.out hb4))
            clear hb4 hI d0 d1 d2
            go_wp2_with fail
            go_ret
            exact ⟨rfl, B5.out⟩
      · go_wp2_with fail
        go_ret
        exact ⟨rfl, BB.out⟩
    · go_wp2_with fail
      go_ret
      exact ⟨rfl, BB.out⟩
end Go.Proofs.Ytmkljmljbbijeaa

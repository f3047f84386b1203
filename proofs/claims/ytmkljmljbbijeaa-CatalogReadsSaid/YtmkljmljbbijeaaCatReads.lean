/- The walk of flumelaw10.CatalogReads. -/
import Derived.Test.YtmkljmljbbijeaaCatBegun
import Derived.Test.YtmkljmljbbijeaaCatRefRead
import Derived.Test.YtmkljmljbbijeaaPlainCatForth
import Derived.Test.YtmkljmljbbijeaaWireReads
namespace Go.Proofs.Ytmkljmljbbijeaa
open Go.RowKit

theorem CatOwn.but {w w' : World} {base g : Nat} {v : Value} {c : CatV} (h : CatOwn w base v c) (hu : But g w w') (hg : g < base) : CatOwn w' base v c := by
  obtain ⟨vs, rfl, ho⟩ := h.own
  refine ⟨⟨vs, rfl, rows_congr ho fun k hk => ?_⟩, h.ok, h.few⟩
  obtain ⟨h1, cur, hc⟩ := rows_blk ho hk
  exact hu.block k (heap_lt hc) (by omega)
theorem nth_out {L : List (List (BitVec 8))} {w : World} {ao : Option Addr} (h : ListsAt w ao L) {k : Nat} (hk : k < L.length) : ∃ b off ai ci, ao = some ⟨b, off, none⟩ ∧ w.cell? ⟨b, off + k, none⟩ = some (.slice ai (nth L k).length ci) ∧ BytesAt w ai (nth L k) ∧ (ai = none → ci = 0) ∧ (nth L k).length ≤ ci ∧ ci ≤ 140737488351232 := h k hk

set_option maxHeartbeats 8000000 in
set_option maxRecDepth 100000 in
theorem cat_reads (a : Option Addr) (L : List (List (BitVec 8))) (ca : Nat) (w : World) (hL : ListsAt w a L) (lL : L.length ≤ 5864062014806) :
    Calls Try.prog 4 #[.slice a L.length ca] w (TrueBelow w) := by
  have HL := Lib.hid hL
  clear hL
  go_enter Try.func4, Try.ntmps4
  go_wp2_with fail
  refine (cat_begun _).mono ?_
  rintro e w1 ⟨rfl, hb⟩
  have H1 := Lib.hid hb
  clear hb
  go_wp2_with fail
  go_loopw [3] (fun i wr => ∃ k : Nat, k ≤ L.length ∧ k ≤ 40 ∧ i = .int .i64 k ∧ Below w.heap.size w wr) (fun i _ => L.length - (intOf i).toNat)
  case atStart => exact ⟨0, by omega, by omega, rfl, H1.out⟩
  case round =>
    obtain ⟨k, hk, hk40, rfl, hb⟩ := hrel
    have HK := Lib.hid hb
    clear hb
    by_cases hlt : k < L.length
    · by_cases h40 : k < 40
      · obtain ⟨b, off, ai, ci, rfl, hc, hbs, hnil, hle, hci⟩ := (HL.out.below HK.out) k hlt
        obtain ⟨D, hD⟩ : ∃ D, nth L k = D := ⟨_, rfl⟩
        rw [hD] at hc hbs hle
        obtain ⟨r, er, hr⟩ : ∃ r er, catR D = (r, er) := ⟨_, _, rfl⟩
        have HB := Lib.hid hbs
        have HNil := Lib.hid hnil
        have HLe := Lib.hid hle
        have HC := Lib.hid hc
        have HR := Lib.hid hr
        have HCI := Lib.hid hci
        clear hbs hnil hr hD
        go_wp2_with fail
        refine (lent ai D ci _ HB.out HNil.out (by omega)).mono ?_
        rintro x w2 ⟨g, cap, rfl, hc2, hcm, hM⟩
        have HM := Lib.hid hM
        have HC2 := Lib.hid hc2
        have HCM := Lib.hid hcm
        have GL : Hid (g < w2.heap.size) := block_lt_of_cell (HM.out.bytes 0 (by simp))
        clear hM hcm hc hc2 hle hci
        go_wp2_with fail
        refine (cat_read (some ⟨g, 0, none⟩) D _ cap w2 HM.out.front rfl (fun h => by cases h) (by have := HC2.out; omega) (by have := HLe.out; have := HCI.out; omega) r er HR.out).mono ?_
        rintro x w3 ⟨v, rfl, hO, hb3⟩
        obtain ⟨ar, cr, rfl, -⟩ := hO.shown
        have B3 := Lib.hid hb3
        have O3 := Lib.hid hO
        clear hb3 hO
        have bA := below_alloc w3 (.cells #[.int .i64 r.gen, .int .i64 r.first, .slice ar r.segs.length cr] 29)
        have hA := heap_alloc_new w3 (.cells #[.int .i64 r.gen, .int .i64 r.first, .slice ar r.segs.length cr] 29)
        obtain ⟨w4, hw4⟩ : ∃ w4, w3.alloc (.cells #[.int .i64 r.gen, .int .i64 r.first, .slice ar r.segs.length cr] 29) = w4 := ⟨_, rfl⟩
        rw [hw4] at bA hA
        have B4 := Lib.hid (below_trans B3.out bA)
        have M4 := Lib.hid (HM.out.on B4.out)
        have O4 := Lib.hid (O3.out.keep bA)
        have N4 := Lib.hid hA
        have c4 := cell_keep M4.out.below HC.out
        clear bA hA
        go_wp2_with fail
        refine (ref_cat_read ai D _ ci w4 (HB.out.below M4.out.below) rfl HLe.out (by have := HCI.out; omega) (by have := HLe.out; have := HCI.out; omega) r er HR.out).mono ?_
        rintro x w5 ⟨v, rfl, hO, hb5⟩
        obtain ⟨aq, cq, rfl, -⟩ := hO.shown
        have B5 := Lib.hid hb5
        have Q5 := Lib.hid hO
        clear hb5 hO c4
        have bA := below_alloc w5 (.cells #[.int .i64 r.gen, .int .i64 r.first, .slice aq r.segs.length cq] 29)
        have hA := heap_alloc_new w5 (.cells #[.int .i64 r.gen, .int .i64 r.first, .slice aq r.segs.length cq] 29)
        obtain ⟨w6, hw6⟩ : ∃ w6, w5.alloc (.cells #[.int .i64 r.gen, .int .i64 r.first, .slice aq r.segs.length cq] 29) = w6 := ⟨_, rfl⟩
        rw [hw6] at bA hA
        have B6 := Lib.hid (below_trans B5.out bA)
        have M6 := Lib.hid (M4.out.on B6.out)
        have O6 := Lib.hid (O4.out.keep B6.out)
        have Q6 := Lib.hid (Q5.out.keep bA)
        have N6 := Lib.hid ((B6.out.block _ (heap_lt N4.out)).trans N4.out)
        have P6 := Lib.hid hA
        clear bA hA
        have x0 := cell_of_row _ _ 0 _ _ _ N6.out
        have x1 := cell_of_row _ _ 1 _ _ _ N6.out
        have x2 := cell_of_row _ _ 2 _ _ _ N6.out
        have y0 := cell_of_row _ _ 0 _ _ _ P6.out
        have y1 := cell_of_row _ _ 1 _ _ _ P6.out
        have y2 := cell_of_row _ _ 2 _ _ _ P6.out
        go_wp2_with fail
        refine (cat_eq r.gen r.first r.gen r.first ar aq _ _ cr cq r.segs r.segs w6 rfl rfl O6.out.at Q6.out.at true (by simp)).mono ?_
        rintro x w7 ⟨rfl, hb7⟩
        have B7 := Lib.hid hb7
        have M7 := Lib.hid (M6.out.on hb7)
        have O7 := Lib.hid (O6.out.keep hb7)
        have N7 := Lib.hid ((hb7.block _ (heap_lt N6.out)).trans N6.out)
        have c7 := cell_keep M7.out.below HC.out
        clear hb7 x0 x1 x2 y0 y1 y2
        go_wp2_with fail
        refine (back_but wr g cap ai D ci _ M7.out HC2.out HCM.out (fun w' hw' => HB.out.but M7.out.below hw' M7.out.own)).mono ?_
        rintro x w8 ⟨rfl, hb8⟩
        have B8 := Lib.hid (show Below wr.heap.size wr w8 from hb8.below M7.out.below M7.out.own M7.out.below.size)
        have O8 := Lib.hid (show CatOwn w8 w2.heap.size _ r from O7.out.but hb8 GL.out)
        have N8 := Lib.hid ((hb8.block _ (heap_lt N7.out) (by have := GL.out; have := B3.out.size; omega)).trans N7.out)
        have K8 := Lib.hid (below_trans HK.out B8.out)
        clear hb8 c7
        by_cases h0 : er = 0
        · subst h0
          obtain ⟨hM, -, hW⟩ := catR_forth HR.out
          have MM := Lib.hid hM
          have WW := Lib.hid hW
          have x0 := cell_of_row _ _ 0 _ _ _ N8.out
          have x1 := cell_of_row _ _ 1 _ _ _ N8.out
          have x2 := cell_of_row _ _ 2 _ _ _ N8.out
          have A8 := Lib.hid O8.out.at
          clear hM hW
          obtain ⟨rg, rf, rs⟩ := r
          dsimp only at x0 x1 x2
          go_wp2_with fail
          refine (cat_write_ok rg rf ar _ cr rs w8 rfl A8.out MM.out).mono ?_
          rintro x w9 ⟨v, rfl, hO, hb9⟩
          obtain ⟨ab, cb, rfl, hab, -⟩ := hO.slice
          rw [WW.out] at hab ⊢
          have AB := Lib.hid hab
          have B9 := Lib.hid (below_trans B8.out hb9)
          have K9 := Lib.hid (below_trans K8.out hb9)
          have c9 := cell_keep B9.out HC.out
          clear hO hab hb9 x0 x1 x2
          go_wp2_with fail
          refine (eq_bytes_of ab ai D D _ _ cb ci true _ AB.out (HB.out.below B9.out) rfl rfl (by have := HLe.out; have := HCI.out; omega) (decide_eq_true rfl)).mono ?_
          rintro x wA ⟨rfl, nA, hwA⟩
          have BA : Hid (Below w.heap.size w wA) := below_trans K9.out (by rw [hwA]; exact below_drewN _ _)
          clear hwA
          go_wp2_with fail
          go_roundw
          case rel => exact ⟨k + 1, by omega, by omega, by go_num, BA.out⟩
          case measure => simp [intOf]; omega
        · have t0 : (er == 0) = false := by simp [h0]
          clear h0
          go_wp2_with fail
          go_roundw
          case rel => exact ⟨k + 1, by omega, by omega, by go_num, K8.out⟩
          case measure => simp [intOf]; omega
      · obtain rfl : k = 40 := by omega
        go_wp2_with fail
        go_ret
        exact ⟨rfl, HK.out⟩
    · have hge : (L.length : Int) ≤ (k : Int) := by omega
      go_wp2_with fail
      go_ret
      exact ⟨rfl, HK.out⟩
end Go.Proofs.Ytmkljmljbbijeaa

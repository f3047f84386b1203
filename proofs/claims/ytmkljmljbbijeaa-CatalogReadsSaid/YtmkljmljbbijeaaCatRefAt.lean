/- The document's May and At of catalogs, whole. -/
import Derived.Test.YtmkljmljbbijeaaCatRef
namespace Go.Proofs.Ytmkljmljbbijeaa
open Go.RowKit

set_option maxRecDepth 100000 in
theorem ref_may_none (gen first : Int) (ao : Option Addr) (ca : Nat) (w : World) :
    Calls Try.prog 22 #[.agg #[.int .i64 gen, .int .i64 first, .slice ao 0 ca]] w fun e w' => e = .returned (.bool false) ∧ Below w.heap.size w w' := by
  have hb1 := below_alloc w (.cells #[.int .i64 gen, .int .i64 first, .slice ao 0 ca] 29)
  have hn := heap_alloc_new w (.cells #[.int .i64 gen, .int .i64 first, .slice ao 0 ca] 29)
  have k0 := cell_of_row _ _ 0 _ _ _ hn
  have k1 := cell_of_row _ _ 1 _ _ _ hn
  have k2 := cell_of_row _ _ 2 _ _ _ hn
  have HB1 := Lib.hid hb1
  clear hb1 hn
  go_enter Try.func22, Try.ntmps22
  by_cases h1 : 1 ≤ gen
  · by_cases h2 : 1 ≤ first
    · go_wp2_with fail
      go_ret
      exact ⟨rfl, HB1.out⟩
    · go_wp2_with fail
      go_ret
      exact ⟨rfl, HB1.out⟩
  · go_wp2_with fail
    go_ret
    exact ⟨rfl, HB1.out⟩
theorem ref_may (c : CatV) (v : Value) (w : World) (h : CatAt w v c) (t : Bool) (ht : t = true ↔ MayC c) :
    Calls Try.prog 22 #[v] w fun e w' => e = .returned (.bool t) ∧ Below w.heap.size w w' := by
  obtain ⟨ao, ca, rfl, hs, h1, h2, h3⟩ := h.shape
  obtain ⟨gen, first, L⟩ := c
  dsimp only at hs h1 ⊢
  match hL : L.length with
  | 0 =>
    obtain rfl : t = false := Bool.eq_false_iff.2 fun h => by have := (ht.1 h).some; dsimp only at this; omega
    exact ref_may_none gen first ao ca w
  | m + 1 =>
    obtain ⟨-, b, off, rfl, -⟩ := hs 0 (by omega)
    exact ref_may_some gen first b off m ca L w hL hs (by omega) t ht

set_option maxRecDepth 100000 in
set_option maxHeartbeats 2000000 in
theorem ref_at (gen first lsn : Int) (ao : Option Addr) (n ca : Nat) (L : List SegV) (w : World) (hn : L.length = n) (hA : CatAt w (.agg #[.int .i64 gen, .int .i64 first, .slice ao n ca]) ⟨gen, first, L⟩) :
    Calls Try.prog 20 #[.agg #[.int .i64 gen, .int .i64 first, .slice ao n ca], .int .i64 lsn] w fun e w' => ∃ (i : Nat) (ok : Bool), AtIs ⟨gen, first, L⟩ lsn i ok ∧ e = .returned (.tuple #[.int .i64 i, .bool ok]) ∧ Below w.heap.size w w' := by
  have b1 := below_alloc w (.cells #[.int .i64 gen, .int .i64 first, .slice ao n ca] 29)
  have hn1 := heap_alloc_new w (.cells #[.int .i64 gen, .int .i64 first, .slice ao n ca] 29)
  obtain ⟨w1, hw1⟩ : ∃ w1, w.alloc (.cells #[.int .i64 gen, .int .i64 first, .slice ao n ca] 29) = w1 := ⟨_, rfl⟩
  rw [hw1] at b1 hn1
  have k0 := cell_of_row _ _ 0 _ _ _ hn1
  have k1 := cell_of_row _ _ 1 _ _ _ hn1
  have k2 := cell_of_row _ _ 2 _ _ _ hn1
  have HB2 := Lib.hid b1
  have HA := Lib.hid (hA.below HB2.out)
  have HN := Lib.hid hn
  clear b1 hn1 hA hn
  go_enter Try.func20, Try.ntmps20
  obtain ⟨t, ht⟩ : ∃ t : Bool, t = true ↔ MayC ⟨gen, first, L⟩ := by
    by_cases h : MayC ⟨gen, first, L⟩
    · exact ⟨true, by simp [h]⟩
    · exact ⟨false, by simp [h]⟩
  have HT := Lib.hid ht
  clear ht
  go_wp2_with fail
  refine (ref_may _ _ w1 HA.out t HT.out).mono ?_
  rintro e w3 ⟨rfl, hb3⟩
  have K0 := cell_keep hb3 k0
  have K1 := cell_keep hb3 k1
  have K2 := cell_keep hb3 k2
  have HA3 := Lib.hid (HA.out.below hb3)
  have HB3 := Lib.hid (below_trans HB2.out hb3)
  clear hb3 k0 k1 k2 hw1
  cases t
  · go_wp2_with fail
    go_ret2
    exact ⟨0, false, .inr ⟨fun h => absurd (HT.out.2 h.1) (by simp), rfl, rfl⟩, rfl, HB3.out⟩
  · by_cases h1 : first ≤ lsn
    · have M := Lib.hid (HT.out.1 rfl)
      have H1 := Lib.hid h1
      obtain ⟨ao', ca', e1, hs, hle, hcm, -⟩ := HA3.out.shape
      injection e1 with e1
      simp only [Array.mk.injEq, List.cons.injEq, Value.slice.injEq, and_true, true_and] at e1
      obtain ⟨rfl, -, rfl⟩ := e1
      dsimp only at hs hle hcm
      have hn0 := M.out.some
      dsimp only at hn0
      have hz : n ≤ 140737488355328 := by have := HN.out; omega
      obtain ⟨-, b, off, rfl, -⟩ := hs 0 hn0
      have HS := Lib.hid hs
      clear hs hle hcm hn0
      go_wp2_with fail
      go_loopw [6, 7] (fun a i wr => ∃ x k : Nat, k ≤ n ∧ a = .int .i64 x ∧ i = .int .i64 k ∧ wr = w3 ∧ Hid ((0 < k → x < k ∧ (nthS L x).base ≤ lsn) ∧ (k = 0 → x = 0) ∧ ∀ j, x < j → j < k → lsn < (nthS L j).base)) (fun _ i _ => n - (intOf i).toNat)
      case atStart => exact ⟨0, 0, Nat.zero_le _, rfl, rfl, rfl, Lib.hid ⟨fun h => absurd h (by omega), fun _ => rfl, fun j h1 h2 => absurd h2 (by omega)⟩⟩
      case round =>
        obtain ⟨x, k, hk, rfl, rfl, rfl, HI⟩ := hrel
        by_cases hlt : k < n
        · obtain ⟨-, d0, d1, d2, d3, d4⟩ := HS.out.get (i := k) (by have := HN.out; omega)
          by_cases hb : (nthS L k).base ≤ lsn
          · have HQ := Lib.hid hb
            have t1 : decide ((nthS L k).base ≤ lsn) = true := decide_eq_true hb
            go_wp2_with fail
            go_roundw
            case rel => exact ⟨k, k + 1, by omega, rfl, by go_num, trivial, Lib.hid ⟨fun _ => ⟨by omega, HQ.out⟩, fun h => absurd h (by omega), fun j h1 h2 => absurd h2 (by omega)⟩⟩
            case measure => simp [intOf]; omega
          · have HQ := Lib.hid hb
            have t1 : decide ((nthS L k).base ≤ lsn) = false := decide_eq_false hb
            have hk0 : Hid (0 < k) := Lib.hid (by
              rcases Nat.eq_zero_or_pos k with h0 | h0
              · subst h0
                have h8 := M.out.low
                have h9 := H1.out
                dsimp only at h8
                exact absurd (Int.le_trans h8 h9) hb
              · exact h0)
            clear hb
            go_wp2_with fail
            go_roundw
            case rel => exact ⟨x, k + 1, by omega, rfl, by go_num, trivial, Lib.hid ⟨fun _ => by obtain ⟨i1, i2⟩ := HI.out.1 hk0.out; exact ⟨by omega, i2⟩, fun h => absurd h (by omega), fun j h1 h2 => by
              rcases Nat.lt_or_ge j k with h | h
              · exact HI.out.2.2 j h1 h
              · obtain rfl : j = k := by omega
                have := HQ.out
                omega⟩⟩
            case measure => simp [intOf]; omega
        · obtain rfl : k = n := by omega
          clear hlt hk
          go_wp2_with fail
          go_ret2
          have h0 := M.out.some
          obtain ⟨i1, i2⟩ := HI.out.1 (by have := HN.out; dsimp only at h0; omega)
          exact ⟨x, true, .inl ⟨M.out, H1.out, rfl, by have := HN.out; dsimp only; omega, i2, fun j h1 h2 => HI.out.2.2 j h1 (by have := HN.out; dsimp only at h2; omega)⟩, rfl, HB3.out⟩
    · have H1 := Lib.hid h1
      go_wp2_with fail
      go_ret2
      exact ⟨0, false, .inr ⟨fun h => by have := H1.out; have := h.2; dsimp only at this; omega, rfl, rfl⟩, rfl, HB3.out⟩
end Go.Proofs.Ytmkljmljbbijeaa

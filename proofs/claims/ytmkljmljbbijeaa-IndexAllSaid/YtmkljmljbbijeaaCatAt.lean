/- The walk of catalog.At. -/
import Derived.Test.YtmkljmljbbijeaaCatMay
import Derived.Test.YtmkljmljbbijeaaSearch
import Derived.Test.YtmkljmljbbijeaaQuietTail
namespace Go.Proofs.Ytmkljmljbbijeaa
open Go.RowKit

set_option maxRecDepth 100000 in
theorem cat_at_fn (bc bl b off n ca i : Nat) (L : List SegV) (lsn : Int) (W : World) (h2 : W.cell? ⟨bc, 2, none⟩ = some (.slice (some ⟨b, off, none⟩) n ca)) (hl : W.cell? ⟨bl, 0, none⟩ = some (.int .i64 lsn)) (hs : SegsAt W (some ⟨b, off, none⟩) L) (hi : i < n) (hn : L.length = n) :
    Calls Try.prog 76 (#[.int .i64 i] ++ #[.pointer (some ⟨bc, 0, none⟩), .pointer (some ⟨bl, 0, none⟩)]) W fun e w' => e = .returned (.bool (decide (lsn < (nthS L i).base))) ∧ ∃ q, w' = W.drewN q := by
  obtain ⟨-, -, d1, -, -, -⟩ := hs.get (i := i) (by omega)
  have hiz : (i : Int) < (n : Int) := by omega
  clear hs hn
  go_enter Try.func76, Try.ntmps76
  go_wp2_with fail
  go_quiet (fail)
  go_wp2_with fail
  go_ret
  exact ⟨rfl, nq, rfl⟩
/-- What At answers. -/
def AtIs (c : CatV) (lsn : Int) (i : Nat) (ok : Bool) : Prop := (MayC c ∧ c.first ≤ lsn ∧ ok = true ∧ AtC c lsn i) ∨ (¬ (MayC c ∧ c.first ≤ lsn) ∧ ok = false ∧ i = 0)
theorem AtIs.uniq {c : CatV} {lsn : Int} {i j : Nat} {a b : Bool} (h : AtIs c lsn i a) (k : AtIs c lsn j b) : i = j ∧ a = b := by
  rcases h with ⟨h1, h2, h3, h4⟩ | ⟨h1, h3, h4⟩ <;> rcases k with ⟨k1, k2, k3, k4⟩ | ⟨k1, k3, k4⟩
  · exact ⟨h4.uniq k4, h3.trans k3.symm⟩
  · exact absurd ⟨h1, h2⟩ k1
  · exact absurd ⟨k1, k2⟩ h1
  · exact ⟨h4.trans k4.symm, h3.trans k3.symm⟩

set_option maxRecDepth 100000 in
set_option maxHeartbeats 2000000 in
theorem cat_at (gen first lsn : Int) (ao : Option Addr) (n ca : Nat) (L : List SegV) (w : World) (hn : L.length = n) (hA : CatAt w (.agg #[.int .i64 gen, .int .i64 first, .slice ao n ca]) ⟨gen, first, L⟩) :
    Calls Try.prog 19 #[.agg #[.int .i64 gen, .int .i64 first, .slice ao n ca], .int .i64 lsn] w fun e w' => ∃ (i : Nat) (ok : Bool), AtIs ⟨gen, first, L⟩ lsn i ok ∧ e = .returned (.tuple #[.int .i64 i, .bool ok]) ∧ Below w.heap.size w w' := by
  have b1 := below_alloc w (.cells #[.int .i64 gen, .int .i64 first, .slice ao n ca] 29)
  have hn1 := heap_alloc_new w (.cells #[.int .i64 gen, .int .i64 first, .slice ao n ca] 29)
  obtain ⟨w1, hw1⟩ : ∃ w1, w.alloc (.cells #[.int .i64 gen, .int .i64 first, .slice ao n ca] 29) = w1 := ⟨_, rfl⟩
  rw [hw1] at b1 hn1
  have b2 := below_alloc w1 (.cells #[.int .i64 lsn] 2)
  have hn2 := heap_alloc_new w1 (.cells #[.int .i64 lsn] 2)
  obtain ⟨w2, hw2⟩ : ∃ w2, w1.alloc (.cells #[.int .i64 lsn] 2) = w2 := ⟨_, rfl⟩
  rw [hw2] at hn2
  rw [hw2] at b2
  have k0 := cell_keep b2 (cell_of_row _ _ 0 _ _ _ hn1)
  have k1 := cell_keep b2 (cell_of_row _ _ 1 _ _ _ hn1)
  have k2 := cell_keep b2 (cell_of_row _ _ 2 _ _ _ hn1)
  have k3 := cell_of_row _ _ 0 _ _ _ hn2
  have HB2 := Lib.hid (below_trans b1 b2)
  have HA := Lib.hid (hA.below HB2.out)
  have HN := Lib.hid hn
  clear b1 b2 hn1 hn2 hA hn
  go_enter Try.func19, Try.ntmps19
  obtain ⟨t, ht⟩ : ∃ t : Bool, t = true ↔ MayC ⟨gen, first, L⟩ := by
    by_cases h : MayC ⟨gen, first, L⟩
    · exact ⟨true, by simp [h]⟩
    · exact ⟨false, by simp [h]⟩
  have HT := Lib.hid ht
  clear ht
  go_wp2_with fail
  refine (cat_may _ _ w2 HA.out t HT.out).mono ?_
  rintro e w3 ⟨rfl, hb3⟩
  have K0 := cell_keep hb3 k0
  have K1 := cell_keep hb3 k1
  have K2 := cell_keep hb3 k2
  have K3 := cell_keep hb3 k3
  have HA3 := Lib.hid (HA.out.below hb3)
  have HB3 := Lib.hid (below_trans HB2.out hb3)
  clear hb3 k0 k1 k2 k3 hw1 hw2
  cases t
  · go_wp2_with fail
    go_ret2
    exact ⟨0, false, .inr ⟨fun h => absurd (HT.out.2 h.1) (by simp), rfl, rfl⟩, rfl, HB3.out⟩
  · by_cases h1 : first ≤ lsn
    · have M := Lib.hid (HT.out.1 rfl)
      have H1 := Lib.hid h1
      go_wp2_with fail
      have hm := M.out
      obtain ⟨ao', ca', e1, hs, hle, hcm, -⟩ := HA3.out.shape
      injection e1 with e1
      simp only [Array.mk.injEq, List.cons.injEq, Value.slice.injEq, and_true, true_and] at e1
      obtain ⟨rfl, -, rfl⟩ := e1
      dsimp only at hs hle hcm
      have hn0 := hm.some
      dsimp only at hn0
      obtain ⟨-, b, off, rfl, -⟩ := hs 0 hn0
      have hn := HN.out
      have srch := sort_search 76 #[.pointer (some ⟨w.heap.size, 0, none⟩), .pointer (some ⟨w1.heap.size, 0, none⟩)] n (fun i => decide (lsn < (nthS L i).base)) w3 (enters_of Try.func76 (by kernel_rfl) rfl) (by omega)
        (fun w' i hb hi => (cat_at_fn w.heap.size w1.heap.size b off n ca i L lsn w' (cell_keep hb K2) (cell_keep hb K3) (hs.below hb) hi hn).mono (by rintro e w'' ⟨rfl, q, rfl⟩; exact ⟨rfl, below_drewN _ _⟩))
        (fun x y hxy hy hp => by
          have h3 := of_decide_eq_true hp
          have h4 := hm.rise (y - x) x (by dsimp only; omega)
          dsimp only at h4
          rw [show x + (y - x) = y by omega] at h4
          exact decide_eq_true (by omega))
      refine srch.mono ?_
      rintro e w4 ⟨k, rfl, ⟨hk, h5, h6⟩, hb4⟩
      have hk1 : 1 ≤ k := by
        rcases Nat.eq_zero_or_pos k with h0 | h0
        · subst h0
          have h7 := of_decide_eq_true (h6 0 (Nat.le_refl _) (by omega))
          have h8 := hm.low
          have h9 := H1.out
          dsimp only at h8
          omega
        · exact h0
      obtain ⟨i, rfl⟩ : ∃ i, k = i + 1 := ⟨k - 1, by omega⟩
      have F : Hid (AtC ⟨gen, first, L⟩ lsn i) := Lib.hid ⟨by dsimp only; omega, by have := of_decide_eq_false (h5 i (by omega)); dsimp only; omega, fun j h7 h8 => of_decide_eq_true (h6 j (by omega) (by dsimp only at h8; omega))⟩
      have HB4 := Lib.hid (below_trans HB3.out hb4)
      have hi : (i : Int) + 1 ≤ 140737488355328 := by omega
      clear hb4 h5 h6 srch hs hle hn0 hm K0 K1 K2 K3
      go_wp2_with fail
      go_ret2
      exact ⟨i, true, .inl ⟨M.out, H1.out, rfl, F.out⟩, by simp, HB4.out⟩
    · have H1 := Lib.hid h1
      go_wp2_with fail
      go_ret2
      exact ⟨0, false, .inr ⟨fun h => by have := H1.out; have := h.2; dsimp only at this; omega, rfl, rfl⟩, rfl, HB3.out⟩
end Go.Proofs.Ytmkljmljbbijeaa

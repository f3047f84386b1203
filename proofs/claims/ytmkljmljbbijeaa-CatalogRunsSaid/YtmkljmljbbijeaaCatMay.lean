/- The walks of catalog.sealed and catalog.open. -/
import Derived.Test.YtmkljmljbbijeaaPlainCat
import Derived.BigQuiet
namespace Go.Proofs.Ytmkljmljbbijeaa
open Go.RowKit

def segVal (s : SegV) : Value := .agg #[.int .i64 s.num, .int .i64 s.base, .int .u32 (bv s.seed), .int .i64 s.end_, .int .i64 s.size]
instance (s : SegV) : Decidable (sealedC s) := by unfold sealedC; infer_instance
instance (s : SegV) : Decidable (openC s) := by unfold openC; infer_instance
set_option maxRecDepth 100000 in
theorem cat_open (s : SegV) (w : World) : Calls Try.prog 77 #[segVal s] w fun e w' => e = .returned (.bool (decide (openC s))) ∧ Below w.heap.size w w' := by
  obtain ⟨num, base, seed, en, size⟩ := s
  have bA := below_alloc w (.cells #[.int .i64 num, .int .i64 base, .int .u32 (bv seed), .int .i64 en, .int .i64 size] 53)
  have BA := Lib.hid bA
  have hn := heap_alloc_new w (.cells #[.int .i64 num, .int .i64 base, .int .u32 (bv seed), .int .i64 en, .int .i64 size] 53)
  have c0 := cell_of_row _ _ 0 _ _ _ hn
  have c1 := cell_of_row _ _ 1 _ _ _ hn
  have c3 := cell_of_row _ _ 3 _ _ _ hn
  have c4 := cell_of_row _ _ 4 _ _ _ hn
  clear bA hn
  obtain ⟨t, ht⟩ : ∃ t, decide (openC ⟨num, base, seed, en, size⟩) = t := ⟨_, rfl⟩
  rw [ht]
  have HT := Lib.hid ht
  clear ht
  unfold segVal
  dsimp only
  go_enter Try.func77, Try.ntmps77
  by_cases h1 : 1 ≤ num
  · by_cases h2 : 1 ≤ base
    · by_cases h3 : en = 0
      · by_cases h4 : size = 0
        · subst h3 h4
          go_wp2_with fail
          go_ret
          exact ⟨by rw [show t = true from by rw [← HT.out]; exact decide_eq_true (by unfold openC; dsimp only; omega)]; rfl, BA.out⟩
        · have b4 : (size == 0) = false := beq_false_of_ne h4
          subst h3
          go_wp2_with fail
          go_ret
          exact ⟨by rw [show t = false from by rw [← HT.out]; exact decide_eq_false (by unfold openC; dsimp only; omega)]; rfl, BA.out⟩
      · have b3 : (en == 0) = false := beq_false_of_ne h3
        go_wp2_with fail
        go_ret
        exact ⟨by rw [show t = false from by rw [← HT.out]; exact decide_eq_false (by unfold openC; dsimp only; omega)]; rfl, BA.out⟩
    · go_wp2_with fail
      go_ret
      exact ⟨by rw [show t = false from by rw [← HT.out]; exact decide_eq_false (by unfold openC; dsimp only; omega)]; rfl, BA.out⟩
  · go_wp2_with fail
    go_ret
    exact ⟨by rw [show t = false from by rw [← HT.out]; exact decide_eq_false (by unfold openC; dsimp only; omega)]; rfl, BA.out⟩
set_option maxRecDepth 100000 in
theorem cat_sealed (s : SegV) (w : World) : Calls Try.prog 78 #[segVal s] w fun e w' => e = .returned (.bool (decide (sealedC s))) ∧ Below w.heap.size w w' := by
  obtain ⟨num, base, seed, en, size⟩ := s
  have bA := below_alloc w (.cells #[.int .i64 num, .int .i64 base, .int .u32 (bv seed), .int .i64 en, .int .i64 size] 53)
  have BA := Lib.hid bA
  have hn := heap_alloc_new w (.cells #[.int .i64 num, .int .i64 base, .int .u32 (bv seed), .int .i64 en, .int .i64 size] 53)
  have c0 := cell_of_row _ _ 0 _ _ _ hn
  have c1 := cell_of_row _ _ 1 _ _ _ hn
  have c3 := cell_of_row _ _ 3 _ _ _ hn
  have c4 := cell_of_row _ _ 4 _ _ _ hn
  clear bA hn
  obtain ⟨t, ht⟩ : ∃ t, decide (sealedC ⟨num, base, seed, en, size⟩) = t := ⟨_, rfl⟩
  rw [ht]
  have HT := Lib.hid ht
  clear ht
  unfold segVal
  dsimp only
  go_enter Try.func78, Try.ntmps78
  by_cases h : 1 ≤ num ∧ 1 ≤ base ∧ base ≤ en ∧ 32 ≤ size ∧ size ≤ 2147483647
  · obtain ⟨h1, h2, h3, h4, h5⟩ := h
    go_wp2_with fail
    go_ret
    exact ⟨by rw [show t = true from by rw [← HT.out]; exact decide_eq_true (by unfold sealedC; dsimp only; omega)]; rfl, BA.out⟩
  · by_cases h1 : 1 ≤ num
    · by_cases h2 : 1 ≤ base
      · by_cases h3 : base ≤ en
        · by_cases h4 : 32 ≤ size
          · have h5 : ¬ size ≤ 2147483647 := by omega
            clear h
            go_wp2_with fail
            go_ret
            exact ⟨by rw [show t = false from by rw [← HT.out]; exact decide_eq_false (by unfold sealedC; dsimp only; omega)]; rfl, BA.out⟩
          · clear h
            go_wp2_with fail
            go_ret
            exact ⟨by rw [show t = false from by rw [← HT.out]; exact decide_eq_false (by unfold sealedC; dsimp only; omega)]; rfl, BA.out⟩
        · clear h
          go_wp2_with fail
          go_ret
          exact ⟨by rw [show t = false from by rw [← HT.out]; exact decide_eq_false (by unfold sealedC; dsimp only; omega)]; rfl, BA.out⟩
      · clear h
        go_wp2_with fail
        go_ret
        exact ⟨by rw [show t = false from by rw [← HT.out]; exact decide_eq_false (by unfold sealedC; dsimp only; omega)]; rfl, BA.out⟩
    · clear h
      go_wp2_with fail
      go_ret
      exact ⟨by rw [show t = false from by rw [← HT.out]; exact decide_eq_false (by unfold sealedC; dsimp only; omega)]; rfl, BA.out⟩
end Go.Proofs.Ytmkljmljbbijeaa

/- The walk of flumelaw9.IndexNone. -/
import Derived.Test.YtmkljmljbbijeaaIdxBegun
import Derived.Test.YtmkljmljbbijeaaIdxBytes
namespace Go.Proofs.Ytmkljmljbbijeaa
open Go.RowKit

/-- An index that is none: nil, or of step 0. -/
def NoneAt (p : Option Addr) (w : World) : Prop := p = none ∨ ∃ xb, p = some ⟨xb, 0, none⟩ ∧ w.cell? ⟨xb, 0, none⟩ = some (.int .i64 0)
theorem NoneAt.below {p : Option Addr} {w w' : World} (h : NoneAt p w) (hb : Below w.heap.size w w') : NoneAt p w' := by
  rcases h with h | ⟨xb, h, hc⟩
  · exact .inl h
  · exact .inr ⟨xb, h, cell_keep hb hc⟩
theorem made_none (p : Option Addr) (w : World) (h : NoneAt p w) : Calls Try.prog 88 #[.pointer p] w fun e w' => e = .returned (.bool false) ∧ w = w' := by
  rcases h with rfl | ⟨xb, rfl, hc⟩
  · exact idx_made_nil w
  · exact idx_made xb 0 false w hc (by decide)
set_option maxRecDepth 100000 in
theorem add_none (p : Option Addr) (lsn off : Int) (w : World) (h : NoneAt p w) : Calls Try.prog 37 #[.pointer p, .int .i64 lsn, .int .i64 off] w fun e w' => e = .returned (.int .i64 1) ∧ w = w' := by
  have H := Lib.hid h
  clear h
  go_enter Try.func37, Try.ntmps37
  go_wp2_with fail
  refine (made_none p w H.out).mono ?_
  rintro e w' ⟨rfl, rfl⟩
  go_wp2_with fail
  go_ret
  exact ⟨rfl, rfl⟩
set_option maxRecDepth 100000 in
theorem entries_none (p : Option Addr) (w : World) (h : NoneAt p w) : Calls Try.prog 39 #[.pointer p] w fun e w' => e = .returned (.slice none 0 0) ∧ w = w' := by
  have H := Lib.hid h
  clear h
  go_enter Try.func39, Try.ntmps39
  go_wp2_with fail
  refine (made_none p w H.out).mono ?_
  rintro e w' ⟨rfl, rfl⟩
  go_wp2_with fail
  go_ret
  exact ⟨rfl, rfl⟩
set_option maxRecDepth 100000 in
theorem cut_none (p : Option Addr) (lsn : Int) (w : World) (h : NoneAt p w) : Calls Try.prog 47 #[.pointer p, .int .i64 lsn] w fun e w' => e = .returned (.int .i64 0) ∧ w = w' := by
  have H := Lib.hid h
  clear h
  go_enter Try.func47, Try.ntmps47
  go_wp2_with fail
  refine (made_none p w H.out).mono ?_
  rintro e w' ⟨rfl, rfl⟩
  go_wp2_with fail
  go_ret
  exact ⟨rfl, rfl⟩
set_option maxRecDepth 100000 in
theorem find_none (p : Option Addr) (lsn : Int) (w : World) (h : NoneAt p w) : Calls Try.prog 38 #[.pointer p, .int .i64 lsn] w fun e w' => e = .returned (.tuple #[.agg #[.int .i64 0, .int .i64 0], .bool false]) ∧ Below w.heap.size w w' := by
  have b1 := below_alloc w (.cells #[.int .i64 0, .int .i64 0] 64)
  have n1 := heap_alloc_new w (.cells #[.int .i64 0, .int .i64 0] 64)
  obtain ⟨w1, hw1⟩ : ∃ w1, w.alloc (.cells #[.int .i64 0, .int .i64 0] 64) = w1 := ⟨_, rfl⟩
  rw [hw1] at b1 n1
  have B1 := Lib.hid b1
  have E1 := Lib.hid n1
  have H := Lib.hid (h.below b1)
  have e0 := cell_of_row _ _ 0 _ _ _ E1.out
  have e1 := cell_of_row _ _ 1 _ _ _ E1.out
  have f0 := frozen_of_row _ _ 0 _ _ E1.out
  have f1 := frozen_of_row _ _ 1 _ _ E1.out
  clear h b1 n1
  go_enter Try.func38, Try.ntmps38
  go_wp2_with fail
  refine (made_none p w1 H.out).mono ?_
  rintro e w' ⟨rfl, rfl⟩
  go_wp2_with fail
  refine bodyPost_ret (results_ent2 rfl _ _ w.heap.size _ _ rfl (cell_of_row _ _ 0 _ _ _ (put2 E1.out _ _)) (cell_of_row _ _ 1 _ _ _ (put2 E1.out _ _))) rfl ?_
  exact ⟨rfl, put2_below B1.out (Nat.le_refl _) _ _⟩

set_option maxRecDepth 100000 in
set_option maxHeartbeats 4000000 in
theorem idx_none (lsn off : Int) (w : World) :
    Calls Try.prog 10 #[.int .i64 lsn, .int .i64 off] w (TrueBelow w) := by
  go_enter Try.func10, Try.ntmps10
  go_wp2_with fail
  refine (idx_begun w).mono ?_
  rintro e w1 ⟨rfl, hb⟩
  have B1 := Lib.hid hb
  clear hb
  have b2 := below_alloc w1 (.cells #[.int .i64 0, .slice none 0 0, .bool false, .int .i64 0, .int .i64 0] 85)
  have n2 := heap_alloc_new w1 (.cells #[.int .i64 0, .slice none 0 0, .bool false, .int .i64 0, .int .i64 0] 85)
  obtain ⟨w2, hw2⟩ : ∃ w2, w1.alloc (.cells #[.int .i64 0, .slice none 0 0, .bool false, .int .i64 0, .int .i64 0] 85) = w2 := ⟨_, rfl⟩
  rw [hw2] at b2 n2
  have b3 := below_alloc w2 (.cells #[.pointer none, .pointer (some ⟨w1.heap.size, 0, none⟩)] 57)
  have n3 := heap_alloc_new w2 (.cells #[.pointer none, .pointer (some ⟨w1.heap.size, 0, none⟩)] 57)
  obtain ⟨w3, hw3⟩ : ∃ w3, w2.alloc (.cells #[.pointer none, .pointer (some ⟨w1.heap.size, 0, none⟩)] 57) = w3 := ⟨_, rfl⟩
  rw [hw3] at b3 n3
  have B3 := Lib.hid (below_trans B1.out (below_trans b2 b3))
  have PT := Lib.hid (show ∀ k, k < 2 → ∃ p, w3.cell? ⟨w2.heap.size, k, none⟩ = some (.pointer p) ∧ NoneAt p w3 from fun k hk => by
    match k, hk with
    | 0, _ => exact ⟨none, cell_of_row _ _ 0 _ _ _ n3, .inl rfl⟩
    | 1, _ => exact ⟨_, cell_of_row _ _ 1 _ _ _ n3, .inr ⟨_, rfl, cell_keep b3 (cell_of_row _ _ 0 _ _ _ n2)⟩⟩)
  clear b2 n2 b3 n3
  go_wp2_with fail
  go_loopw [7] (fun i wr => ∃ k : Nat, k ≤ 2 ∧ i = .int .i64 k ∧ Hid (Below w3.heap.size w3 wr)) (fun i _ => 2 - (intOf i).toNat)
  case atStart => exact ⟨0, by omega, rfl, Lib.hid (Below.refl _ _)⟩
  case round =>
    obtain ⟨k, hk, rfl, HB⟩ := hrel
    by_cases hlt : k < 2
    · obtain ⟨p, hp, hnp⟩ := PT.out k hlt
      have hp1 := cell_keep HB.out hp
      have NP := Lib.hid (hnp.below HB.out)
      have HP := Lib.hid hp
      have kz : (k : Int) < 2 := by omega
      clear hp hnp
      go_wp2_with fail
      refine (find_none p lsn wr NP.out).mono ?_
      rintro e w4 ⟨rfl, hb4⟩
      have bE := below_alloc w4 (.cells #[.int .i64 0, .int .i64 0] 64)
      have nE := heap_alloc_new w4 (.cells #[.int .i64 0, .int .i64 0] 64)
      have B5 := Lib.hid (below_trans HB.out (below_trans hb4 bE))
      have E5 := Lib.hid nE
      clear hb4 bE nE hp1
      try dsimp only
      go_wp2_with fail
      obtain ⟨w5, hw5⟩ : ∃ w5, w4.alloc (.cells #[.int .i64 0, .int .i64 0] 64) = w5 := ⟨_, rfl⟩
      rw [hw5] at B5 E5
      rw [hw5]
      clear hw5
      refine (ref_new_ok 1 w5 (by decide) (by decide)).mono ?_
      rintro e w6 ⟨rfl, hr, hb6⟩
      have R6 := Lib.hid hr
      have B6 := Lib.hid (below_trans B5.out hb6)
      have E6 := Lib.hid ((hb6.block _ (heap_lt E5.out)).trans E5.out)
      have hp1 := cell_keep B6.out HP.out
      have e0 := cell_of_row _ _ 0 _ _ _ E6.out
      have e1 := cell_of_row _ _ 1 _ _ _ E6.out
      have N6 : Hid (NoneAt p w6) := Lib.hid (by
        obtain ⟨p', hp', hn'⟩ := PT.out k hlt
        have : p' = p := by
          have := hp'.symm.trans HP.out
          injection this with this; injection this
        subst this
        exact hn'.below B6.out)
      clear hr hb6
      try dsimp only
      go_wp2_with fail
      refine (add_none p lsn off w6 N6.out).mono ?_
      rintro e w' ⟨rfl, rfl⟩
      try dsimp only
      go_wp2_with fail
      refine (entries_none p w6 N6.out).mono ?_
      rintro e w' ⟨rfl, rfl⟩
      try dsimp only
      go_wp2_with fail
      refine (cut_none p lsn w6 N6.out).mono ?_
      rintro e w' ⟨rfl, rfl⟩
      try dsimp only
      go_wp2_with fail
      refine (idx_bytes_none p w6 N6.out).mono ?_
      rintro e w7 ⟨v, rfl, ho, hb7⟩
      obtain ⟨a7, c7, rfl, x7, -, -, -, -⟩ := ho.slice
      have X7 := Lib.hid x7
      have B7 := Lib.hid (below_trans B6.out hb7)
      have R7 := Lib.hid (R6.out.keep hb7)
      have LN := Lib.hid (idxB_len (idx0_ok (s := 1) (by decide) (by decide)))
      clear ho x7 hb7 hp1 e0 e1
      try dsimp only
      go_wp2_with fail
      refine (ref_bytes _ _ _ _ _ _ w7 R7 (Lib.hid (idx0_ok (by decide) (by decide)))).mono ?_
      rintro e w8 ⟨v, rfl, ho, hb8⟩
      obtain ⟨a8, c8, rfl, x8, -, -, -, -⟩ := ho.slice
      have X8 := Lib.hid x8
      have X78 := Lib.hid (X7.out.below hb8)
      have B8 := Lib.hid (below_trans B7.out hb8)
      clear ho x8 hb8
      try dsimp only
      go_wp2_with fail
      refine (eq_bytes_of a7 a8 _ _ _ _ c7 c8 true w8 X78.out X8.out rfl rfl (by have := LN.out; omega) (decide_eq_true rfl)).mono ?_
      rintro e w9 ⟨rfl, n9, rfl⟩
      have B9 := Lib.hid (below_trans B8.out (below_drewN w8 n9))
      try dsimp only
      go_wp2_with fail
      go_roundw
      case rel => exact ⟨k + 1, by omega, by go_num, B9⟩
      case measure => simp [intOf]; omega
    · have hge : (2 : Int) ≤ (k : Int) := by omega
      go_wp2_with fail
      go_ret
      exact ⟨rfl, below_trans B3.out HB.out⟩
end Go.Proofs.Ytmkljmljbbijeaa

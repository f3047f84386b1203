/- The document's At, Eq, Copy of catalogs walked. -/
import Derived.Test.YtmkljmljbbijeaaCatAt
namespace Go.Proofs.Ytmkljmljbbijeaa
open Go.RowKit

def segL (s : SegV) : List Value := [.int .i64 s.num, .int .i64 s.base, .int .u32 (bv s.seed), .int .i64 s.end_, .int .i64 s.size]
set_option maxRecDepth 100000 in
theorem Try.sizeSeg : (Try.prog.info? 53).map (·.size) = some 5 := by kernel_rfl
theorem SegCells.range {w : World} {b o : Nat} {s : SegV} (h : SegCells w b o s) : w.rangeAt b o (segL s) := fun j v hj => by
  match j with
  | 0 => injection hj with hj; subst hj; exact h.c0
  | 1 => injection hj with hj; subst hj; exact h.c1
  | 2 => injection hj with hj; subst hj; exact h.c2
  | 3 => injection hj with hj; subst hj; exact h.c3
  | 4 => injection hj with hj; subst hj; exact h.c4
  | n + 5 => simp [segL] at hj
set_option maxRecDepth 100000 in
theorem cat_eq (ga fa gb fb : Int) (aa ab : Option Addr) (na nb ca cb : Nat) (A B : List SegV) (w : World) (hna : A.length = na) (hnb : B.length = nb) (hA : CatAt w (.agg #[.int .i64 ga, .int .i64 fa, .slice aa na ca]) ⟨ga, fa, A⟩) (hB : CatAt w (.agg #[.int .i64 gb, .int .i64 fb, .slice ab nb cb]) ⟨gb, fb, B⟩) (t : Bool) (ht : t = true ↔ (⟨ga, fa, A⟩ : CatV) = ⟨gb, fb, B⟩) :
    Calls Try.prog 28 #[.agg #[.int .i64 ga, .int .i64 fa, .slice aa na ca], .agg #[.int .i64 gb, .int .i64 fb, .slice ab nb cb]] w fun e w' => e = .returned (.bool t) ∧ Below w.heap.size w w' := by
  have b1 := below_alloc w (.cells #[.int .i64 ga, .int .i64 fa, .slice aa na ca] 29)
  have hn1 := heap_alloc_new w (.cells #[.int .i64 ga, .int .i64 fa, .slice aa na ca] 29)
  obtain ⟨w1, hw1⟩ : ∃ w1, w.alloc (.cells #[.int .i64 ga, .int .i64 fa, .slice aa na ca] 29) = w1 := ⟨_, rfl⟩
  rw [hw1] at b1 hn1
  have b2 := below_alloc w1 (.cells #[.int .i64 gb, .int .i64 fb, .slice ab nb cb] 29)
  have hn2 := heap_alloc_new w1 (.cells #[.int .i64 gb, .int .i64 fb, .slice ab nb cb] 29)
  obtain ⟨w2, hw2⟩ : ∃ w2, w1.alloc (.cells #[.int .i64 gb, .int .i64 fb, .slice ab nb cb] 29) = w2 := ⟨_, rfl⟩
  rw [hw2] at hn2 b2
  have k0 := cell_keep b2 (cell_of_row _ _ 0 _ _ _ hn1)
  have k1 := cell_keep b2 (cell_of_row _ _ 1 _ _ _ hn1)
  have k2 := cell_keep b2 (cell_of_row _ _ 2 _ _ _ hn1)
  have j0 := cell_of_row _ _ 0 _ _ _ hn2
  have j1 := cell_of_row _ _ 1 _ _ _ hn2
  have j2 := cell_of_row _ _ 2 _ _ _ hn2
  have HB2 := Lib.hid (below_trans b1 b2)
  have hz : na ≤ 140737488355328 := by
    obtain ⟨_, _, e1, -, h5, h6, -⟩ := hA.shape
    dsimp only at h5 h6
    injection e1 with e1
    simp only [Array.mk.injEq, List.cons.injEq, Value.slice.injEq, and_true, true_and] at e1
    omega
  have HA := Lib.hid (hA.below HB2.out)
  have HB := Lib.hid (hB.below HB2.out)
  have HT := Lib.hid ht
  have NA := Lib.hid hna
  have NB := Lib.hid hnb
  clear b1 b2 hn1 hn2 hA hB ht hna hnb
  go_enter Try.func28, Try.ntmps28
  by_cases q1 : ga = gb
  · have t1 : (ga != gb) = false := by simp [q1]
    have Q1 := Lib.hid q1
    clear q1
    by_cases q2 : fa = fb
    · have t2 : (fa != fb) = false := by simp [q2]
      have Q2 := Lib.hid q2
      clear q2
      by_cases q3 : na = nb
      · have Q3 := Lib.hid q3
        subst q3
        go_wp2_with fail
        go_loopw [5] (fun i wr => ∃ k : Nat, k ≤ na ∧ i = .int .i64 k ∧ (∃ q, wr = w2.drewN q) ∧ Hid (∀ j, j < k → nthS A j = nthS B j)) (fun i _ => na - (intOf i).toNat)
        case atStart => exact ⟨0, by omega, rfl, ⟨0, rfl⟩, Lib.hid fun j hj => absurd hj (by omega)⟩
        case round =>
          obtain ⟨k, hk, rfl, ⟨q, rfl⟩, HE⟩ := hrel
          have K2 : (w2.drewN q).cell? ⟨w.heap.size, 2, none⟩ = _ := k2
          have J2 : (w2.drewN q).cell? ⟨w1.heap.size, 2, none⟩ = _ := j2
          by_cases hlt : k < na
          · obtain ⟨aa', ca', e1, hs, -⟩ := (HA.out.below (below_drewN w2 q)).shape
            injection e1 with e1
            simp only [Array.mk.injEq, List.cons.injEq, Value.slice.injEq, and_true, true_and] at e1
            obtain ⟨rfl, -, rfl⟩ := e1
            obtain ⟨ab', cb', e1, hr, -⟩ := (HB.out.below (below_drewN w2 q)).shape
            injection e1 with e1
            simp only [Array.mk.injEq, List.cons.injEq, Value.slice.injEq, and_true, true_and] at e1
            obtain ⟨rfl, -, rfl⟩ := e1
            dsimp only at hs hr
            obtain ⟨-, ba, oa, rfl, D⟩ := hs k (by have := NA.out; omega)
            obtain ⟨-, bb, ob, rfl, E⟩ := hr k (by have := NB.out; omega)
            have D' := Lib.hid D
            have E' := Lib.hid E
            have kz : (k : Int) < (na : Int) := by omega
            clear hs hr D E
            by_cases he : nthS A k = nthS B k
            · have HQ := Lib.hid he
              obtain ⟨e1, e2, e3, e4, e5⟩ : (nthS A k).num = (nthS B k).num ∧ (nthS A k).base = (nthS B k).base ∧ (nthS A k).seed = (nthS B k).seed ∧ (nthS A k).end_ = (nthS B k).end_ ∧ (nthS A k).size = (nthS B k).size := by rw [he]; exact ⟨rfl, rfl, rfl, rfl, rfl⟩
              clear he
              go_wp2_with fail
              refine wp_region_quiet_lit (by kernel_rfl) (by kernel_rfl) ?_
              repeat (quiet_step (fail))
              refine wpQuiet_load_mid (op := ⟨some 38, _, _, _, _, _⟩) rfl 53 _ rfl ba (oa + k * 5) rfl (segL (nthS A k)) _ (fun w hw => by obtain ⟨n, rfl⟩ := hw; exact (D'.out.below (below_drewN _ n)).range) Try.underlying53 rfl Try.sizeSeg ?_
              simp only [Act.put, List.setIfInBounds_toArray, List.set_cons_zero, List.set_cons_succ]
              repeat (quiet_step (fail))
              refine wpQuiet_load_mid (op := ⟨some 43, _, _, _, _, _⟩) rfl 53 _ rfl bb (ob + k * 5) rfl (segL (nthS B k)) _ (fun w hw => by obtain ⟨n, rfl⟩ := hw; exact (E'.out.below (below_drewN _ n)).range) Try.underlying53 rfl Try.sizeSeg ?_
              simp only [Act.put, List.setIfInBounds_toArray, List.set_cons_zero, List.set_cons_succ]
              unfold segL
              repeat (quiet_step (fail))
              refine wpQuiet_nil ?_
              intro _ hw'
              obtain ⟨nq, hw''⟩ := hw'
              subst hw''
              go_wp2_with fail
              go_roundw
              case rel =>
                have R : ∀ j, j < k + 1 → nthS A j = nthS B j := fun j hj => by
                  rcases Nat.lt_or_ge j k with h | h
                  · exact HE.out j h
                  · obtain rfl : j = k := by omega
                    exact HQ.out
                exact ⟨k + 1, by omega, by go_num, ⟨q + nq, by simp [go_sem]⟩, Lib.hid R⟩
              case measure => simp [intOf]; omega
            · have HQ : Hid (t = false) := Lib.hid (Bool.eq_false_iff.2 fun h => he (by have h5 := HT.out.1 h; injection h5 with _ _ h6; rw [h6]))
              have hd : (nthS A k).num ≠ (nthS B k).num ∨ ((nthS A k).num = (nthS B k).num ∧ (nthS A k).base ≠ (nthS B k).base) ∨ ((nthS A k).num = (nthS B k).num ∧ (nthS A k).base = (nthS B k).base ∧ (nthS A k).seed ≠ (nthS B k).seed) ∨ ((nthS A k).num = (nthS B k).num ∧ (nthS A k).base = (nthS B k).base ∧ (nthS A k).seed = (nthS B k).seed ∧ (nthS A k).end_ ≠ (nthS B k).end_) ∨ ((nthS A k).num = (nthS B k).num ∧ (nthS A k).base = (nthS B k).base ∧ (nthS A k).seed = (nthS B k).seed ∧ (nthS A k).end_ = (nthS B k).end_ ∧ (nthS A k).size ≠ (nthS B k).size) := by
                by_cases e1 : (nthS A k).num = (nthS B k).num
                · by_cases e2 : (nthS A k).base = (nthS B k).base
                  · by_cases e3 : (nthS A k).seed = (nthS B k).seed
                    · by_cases e4 : (nthS A k).end_ = (nthS B k).end_
                      · refine .inr (.inr (.inr (.inr ⟨e1, e2, e3, e4, fun e5 => he ?_⟩)))
                        generalize nthS A k = x at e1 e2 e3 e4 e5
                        generalize nthS B k = y at e1 e2 e3 e4 e5
                        cases x; cases y
                        simp_all
                      · exact .inr (.inr (.inr (.inl ⟨e1, e2, e3, e4⟩)))
                    · exact .inr (.inr (.inl ⟨e1, e2, e3⟩))
                  · exact .inr (.inl ⟨e1, e2⟩)
                · exact .inl e1
              clear he
              rcases hd with g1 | ⟨g1, g2⟩ | ⟨g1, g2, g3⟩ | ⟨g1, g2, g3, g4⟩ | ⟨g1, g2, g3, g4, g5⟩
              · go_wp2_with fail
                refine wp_region_quiet_lit (by kernel_rfl) (by kernel_rfl) ?_
                repeat (quiet_step (fail))
                refine wpQuiet_load_mid (op := ⟨some 38, _, _, _, _, _⟩) rfl 53 _ rfl ba (oa + k * 5) rfl (segL (nthS A k)) _ (fun w hw => by obtain ⟨n, rfl⟩ := hw; exact (D'.out.below (below_drewN _ n)).range) Try.underlying53 rfl Try.sizeSeg ?_
                simp only [Act.put, List.setIfInBounds_toArray, List.set_cons_zero, List.set_cons_succ]
                repeat (quiet_step (fail))
                refine wpQuiet_load_mid (op := ⟨some 43, _, _, _, _, _⟩) rfl 53 _ rfl bb (ob + k * 5) rfl (segL (nthS B k)) _ (fun w hw => by obtain ⟨n, rfl⟩ := hw; exact (E'.out.below (below_drewN _ n)).range) Try.underlying53 rfl Try.sizeSeg ?_
                simp only [Act.put, List.setIfInBounds_toArray, List.set_cons_zero, List.set_cons_succ]
                unfold segL
                repeat (quiet_step (fail))
                refine wpQuiet_nil ?_
                intro _ hw'
                obtain ⟨nq, hw''⟩ := hw'
                subst hw''
                go_wp2_with fail
                go_ret
                exact ⟨by rw [HQ.out]; rfl, below_trans HB2.out (by rw [World.drewN_drewN]; exact below_drewN _ _)⟩
              · go_wp2_with fail
                refine wp_region_quiet_lit (by kernel_rfl) (by kernel_rfl) ?_
                repeat (quiet_step (fail))
                refine wpQuiet_load_mid (op := ⟨some 38, _, _, _, _, _⟩) rfl 53 _ rfl ba (oa + k * 5) rfl (segL (nthS A k)) _ (fun w hw => by obtain ⟨n, rfl⟩ := hw; exact (D'.out.below (below_drewN _ n)).range) Try.underlying53 rfl Try.sizeSeg ?_
                simp only [Act.put, List.setIfInBounds_toArray, List.set_cons_zero, List.set_cons_succ]
                repeat (quiet_step (fail))
                refine wpQuiet_load_mid (op := ⟨some 43, _, _, _, _, _⟩) rfl 53 _ rfl bb (ob + k * 5) rfl (segL (nthS B k)) _ (fun w hw => by obtain ⟨n, rfl⟩ := hw; exact (E'.out.below (below_drewN _ n)).range) Try.underlying53 rfl Try.sizeSeg ?_
                simp only [Act.put, List.setIfInBounds_toArray, List.set_cons_zero, List.set_cons_succ]
                unfold segL
                repeat (quiet_step (fail))
                refine wpQuiet_nil ?_
                intro _ hw'
                obtain ⟨nq, hw''⟩ := hw'
                subst hw''
                go_wp2_with fail
                go_ret
                exact ⟨by rw [HQ.out]; rfl, below_trans HB2.out (by rw [World.drewN_drewN]; exact below_drewN _ _)⟩
              · go_wp2_with fail
                refine wp_region_quiet_lit (by kernel_rfl) (by kernel_rfl) ?_
                repeat (quiet_step (fail))
                refine wpQuiet_load_mid (op := ⟨some 38, _, _, _, _, _⟩) rfl 53 _ rfl ba (oa + k * 5) rfl (segL (nthS A k)) _ (fun w hw => by obtain ⟨n, rfl⟩ := hw; exact (D'.out.below (below_drewN _ n)).range) Try.underlying53 rfl Try.sizeSeg ?_
                simp only [Act.put, List.setIfInBounds_toArray, List.set_cons_zero, List.set_cons_succ]
                repeat (quiet_step (fail))
                refine wpQuiet_load_mid (op := ⟨some 43, _, _, _, _, _⟩) rfl 53 _ rfl bb (ob + k * 5) rfl (segL (nthS B k)) _ (fun w hw => by obtain ⟨n, rfl⟩ := hw; exact (E'.out.below (below_drewN _ n)).range) Try.underlying53 rfl Try.sizeSeg ?_
                simp only [Act.put, List.setIfInBounds_toArray, List.set_cons_zero, List.set_cons_succ]
                unfold segL
                repeat (quiet_step (fail))
                refine wpQuiet_nil ?_
                intro _ hw'
                obtain ⟨nq, hw''⟩ := hw'
                subst hw''
                go_wp2_with fail
                go_ret
                exact ⟨by rw [HQ.out]; rfl, below_trans HB2.out (by rw [World.drewN_drewN]; exact below_drewN _ _)⟩
              · go_wp2_with fail
                refine wp_region_quiet_lit (by kernel_rfl) (by kernel_rfl) ?_
                repeat (quiet_step (fail))
                refine wpQuiet_load_mid (op := ⟨some 38, _, _, _, _, _⟩) rfl 53 _ rfl ba (oa + k * 5) rfl (segL (nthS A k)) _ (fun w hw => by obtain ⟨n, rfl⟩ := hw; exact (D'.out.below (below_drewN _ n)).range) Try.underlying53 rfl Try.sizeSeg ?_
                simp only [Act.put, List.setIfInBounds_toArray, List.set_cons_zero, List.set_cons_succ]
                repeat (quiet_step (fail))
                refine wpQuiet_load_mid (op := ⟨some 43, _, _, _, _, _⟩) rfl 53 _ rfl bb (ob + k * 5) rfl (segL (nthS B k)) _ (fun w hw => by obtain ⟨n, rfl⟩ := hw; exact (E'.out.below (below_drewN _ n)).range) Try.underlying53 rfl Try.sizeSeg ?_
                simp only [Act.put, List.setIfInBounds_toArray, List.set_cons_zero, List.set_cons_succ]
                unfold segL
                repeat (quiet_step (fail))
                refine wpQuiet_nil ?_
                intro _ hw'
                obtain ⟨nq, hw''⟩ := hw'
                subst hw''
                go_wp2_with fail
                go_ret
                exact ⟨by rw [HQ.out]; rfl, below_trans HB2.out (by rw [World.drewN_drewN]; exact below_drewN _ _)⟩
              · go_wp2_with fail
                refine wp_region_quiet_lit (by kernel_rfl) (by kernel_rfl) ?_
                repeat (quiet_step (fail))
                refine wpQuiet_load_mid (op := ⟨some 38, _, _, _, _, _⟩) rfl 53 _ rfl ba (oa + k * 5) rfl (segL (nthS A k)) _ (fun w hw => by obtain ⟨n, rfl⟩ := hw; exact (D'.out.below (below_drewN _ n)).range) Try.underlying53 rfl Try.sizeSeg ?_
                simp only [Act.put, List.setIfInBounds_toArray, List.set_cons_zero, List.set_cons_succ]
                repeat (quiet_step (fail))
                refine wpQuiet_load_mid (op := ⟨some 43, _, _, _, _, _⟩) rfl 53 _ rfl bb (ob + k * 5) rfl (segL (nthS B k)) _ (fun w hw => by obtain ⟨n, rfl⟩ := hw; exact (E'.out.below (below_drewN _ n)).range) Try.underlying53 rfl Try.sizeSeg ?_
                simp only [Act.put, List.setIfInBounds_toArray, List.set_cons_zero, List.set_cons_succ]
                unfold segL
                repeat (quiet_step (fail))
                refine wpQuiet_nil ?_
                intro _ hw'
                obtain ⟨nq, hw''⟩ := hw'
                subst hw''
                go_wp2_with fail
                go_ret
                exact ⟨by rw [HQ.out]; rfl, below_trans HB2.out (by rw [World.drewN_drewN]; exact below_drewN _ _)⟩
          · have HE2 : Hid (t = true) := Lib.hid (HT.out.2 (by
              have h5 : A = B := by
                apply List.ext_getElem (by rw [NA.out, NB.out])
                intro i h1 h2
                have h3 := HE.out i (by have := NA.out; omega)
                simpa [nthS, h1, h2] using h3
              rw [Q1.out, Q2.out, h5]))
            go_wp2_with fail
            go_ret
            exact ⟨by rw [HE2.out]; rfl, below_trans HB2.out (below_drewN _ _)⟩
      · have Q3 : Hid (t = false) := Lib.hid (Bool.eq_false_iff.2 fun h => q3 (by have h5 := HT.out.1 h; injection h5 with _ _ h6; rw [← NA.out, ← NB.out, h6]))
        have t3 : ((na : Int) != (nb : Int)) = true := by simp; omega
        clear q3
        go_wp2_with fail
        go_ret
        exact ⟨by rw [Q3.out]; rfl, HB2.out⟩
    · have Q3 : Hid (t = false) := Lib.hid (Bool.eq_false_iff.2 fun h => q2 (CatV.mk.inj (HT.out.1 h)).2.1)
      have t2 : (fa != fb) = true := by simp [q2]
      clear q2
      go_wp2_with fail
      go_ret
      exact ⟨by rw [Q3.out]; rfl, HB2.out⟩
  · have Q3 : Hid (t = false) := Lib.hid (Bool.eq_false_iff.2 fun h => q1 (CatV.mk.inj (HT.out.1 h)).1)
    have t1 : (ga != gb) = true := by simp [q1]
    clear q1
    go_wp2_with fail
    go_ret
    exact ⟨by rw [Q3.out]; rfl, HB2.out⟩
end Go.Proofs.Ytmkljmljbbijeaa

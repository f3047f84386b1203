/- flumelaw10.CatalogRuns: a round's second half: what was cut. -/
import Derived.Test.YtmkljmljbbijeaaCatRunsA
namespace Go.Proofs.Ytmkljmljbbijeaa
open Go.RowKit

/-- What holds at the round's end. -/
structure RunE (k cb : Nat) (w0 wc : World) (g f : Int) (ao : Option Addr) (n ca : Nat) (S : List SegV) : Prop where
  run : RunC (3 + 2 * (k : Int)) (1152921504606846976 + 500 * (k : Int) + 500) (2 + (k : Int)) (1152921504606846976 + 1000 * (k : Int) + 1000) ⟨g, f, S⟩
  at' : RunW cb wc ⟨g, f, S⟩ ao n ca
  low : Below w0.heap.size w0 wc
theorem OwnI.get {w : World} {base : Nat} {an : Option Addr} {n cn : Nat} {l : List Int} (h : OwnI w base (.slice an n cn) l) {i : Nat} (hi : i < l.length) : ∃ g, an = some ⟨g, 0, none⟩ ∧ w.cell? ⟨g, i, none⟩ = some (.int .i64 (l.getD i 0)) := by
  obtain ⟨ao, ca, e, hg⟩ := h.there
  injection e with e
  obtain ⟨g, e2, -, -, hc, -⟩ := hg i hi
  exact ⟨g, e.trans e2, hc⟩

set_option maxHeartbeats 16000000 in
set_option maxRecDepth 100000 in
theorem runs_cut (k cb db base' kk p ca cr cn : Nat) (g f T : Int) (ao ar an : Option Addr) (S : List SegV) (w0 w9 : World) (K : Act → World → Prop) (Q' : Exit → Act → World → Prop)
    (u0 u1 u2 u3 u4 u6 u7 u8 u10 u11 u13 u14 u15 u16 u17 u18 u19 u20 u21 u22 u23 u24 u25 u26 u27 u28 u29 u30 u31 u32 u33 u34 u35 u36 u37 u38 u39 u40 u41 u42 u43 u44 u45 u46 u47 u48 u49 u50 u51 u52 u53 u54 u55 u56 u57 u58 u59 u60 u61 u62 u63 u64 u65 u66 u67 u68 u69 u70 u71 u72 u73 u74 u75 u76 u77 u78 u79 u80 u81 u82 u83 u84 u85 u86 u87 u88 u89 u90 u91 u92 u93 u94 u95 u96 u97 u98 u99 u100 u101 u102 u103 u104 u105 u106 u107 u108 u109 u110 u111 u112 u113 u114 u115 u116 u117 u118 u119 u120 u121 u122 u123 u124 u125 u126 u127 u128 u129 u130 u131 u132 u133 u134 u135 u136 u137 u138 u139 u140 u141 u142 u143 u144 u145 u146 u147 u148 u149 u150 u152 u153 u154 u155 u156 u157 u158 u159 u160 u161 u162 u163 u164 u165 u166 u167 u168 u169 u170 u171 u172 u173 u174 u175 u176 u177 u178 u179 u180 u181 u182 u183 u184 u185 u186 u187 u188 u189 u190 u191 u192 u193 u194 u195 u196 u197 u198 u199 u200 u201 u202 u203 u204 u205 u206 u207 u208 u209 u210 u211 u212 u213 u214 u215 u216 u217 u218 u219 u220 u221 u222 u223 u224 u225 u226 u227 u228 u229 u230 u231 u232 u233 u234 u235 u236 u237 u238 u239 u240 u241 u242 u243 u244 u245 u246 u247 u248 u249 u250 u251 u252 u253 : Value)
    (hk : k < 100) (RM : Hid (RunC (2 + 2 * (k : Int)) (1152921504606846976 + 500 * (k : Int)) (2 + (k : Int)) (1152921504606846976 + 1000 * (k : Int) + 1000) ⟨g, f, S⟩)) (HN : Hid (S.length = kk + p)) (p1 : 1 ≤ p) (n64 : kk + p ≤ 64)
    (HKK : Hid (CutK ⟨g, f, S⟩ T kk)) (RC : Hid (RunC (3 + 2 * (k : Int)) (1152921504606846976 + 500 * (k : Int) + 500) (2 + (k : Int)) (1152921504606846976 + 1000 * (k : Int) + 1000) ⟨g + 1, T, S.drop kk⟩))
    (W9 : Hid (RunW cb w9 ⟨g, f, S⟩ ao (kk + p) ca)) (R9 : Hid (CatOwn w9 base' (.agg #[.int .i64 (g + 1), .int .i64 T, .slice ar p cr]) ⟨g + 1, T, S.drop kk⟩)) (I9 : Hid (OwnI w9 base' (.slice an kk cn) (numsC S kk)))
    (D9 : Hid (w9.heap[db]? = some (.cells #[.int .i64 (g + 1), .int .i64 T, .slice ar p cr] 29 (0, 0))))
    (B9 : Hid (Below w0.heap.size w0 w9)) (CB : Hid (w0.heap.size ≤ cb)) (LB : Hid (cb < base'))
    (hK : ∀ (g f : Int) (ao : Option Addr) (n ca : Nat) (S : List SegV) (wd : World) (x4 x13 x14 x15 x152 x153 x154 x155 x156 x157 x158 x159 x160 x161 x162 x163 x164 x165 x166 x167 x168 x169 x170 x171 x172 x173 x174 x175 x176 x177 x178 x179 x180 x181 x182 x183 x184 x185 x186 x187 x188 x189 x190 x191 x192 x193 x194 x195 x196 x197 x198 x199 x200 x201 x202 x203 x204 x205 x206 x207 x208 x209 x210 x211 x212 x213 x214 x215 x216 x217 x218 x219 x220 x221 x222 x223 x224 x225 x226 : Value), RunE k cb w0 wd g f ao n ca S → K ⟨#[u0, u1, u2, u3, x4, .pointer (some ⟨cb, 0, none⟩), u6, u7, u8, .pointer (some ⟨db, 0, none⟩), u10, u11, .slice an kk cn, x13, x14, x15, u16, u17, u18, u19, u20, u21, u22, u23, u24, u25, u26, u27, u28, u29, u30, u31, u32, u33, u34, u35, u36, u37, u38, u39, u40, u41, u42, u43, u44, u45, u46, u47, u48, u49, u50, u51, u52, u53, u54, u55, u56, u57, u58, u59, u60, u61, u62, u63, u64, u65, u66, u67, u68, u69, u70, u71, u72, u73, u74, u75, u76, u77, u78, u79, u80, u81, u82, u83, u84, u85, u86, u87, u88, u89, u90, u91, u92, u93, u94, u95, u96, u97, u98, u99, u100, u101, u102, u103, u104, u105, u106, u107, u108, u109, u110, u111, u112, u113, u114, u115, u116, u117, u118, u119, u120, u121, u122, u123, u124, u125, u126, u127, u128, u129, u130, u131, u132, u133, u134, u135, u136, u137, u138, u139, u140, u141, u142, u143, u144, u145, u146, u147, u148, u149, u150, .bool true, x152, x153, x154, x155, x156, x157, x158, x159, x160, x161, x162, x163, x164, x165, x166, x167, x168, x169, x170, x171, x172, x173, x174, x175, x176, x177, x178, x179, x180, x181, x182, x183, x184, x185, x186, x187, x188, x189, x190, x191, x192, x193, x194, x195, x196, x197, x198, x199, x200, x201, x202, x203, x204, x205, x206, x207, x208, x209, x210, x211, x212, x213, x214, x215, x216, x217, x218, x219, x220, x221, x222, x223, x224, x225, x226, u227, u228, u229, u230, u231, u232, u233, u234, u235, u236, u237, u238, u239, u240, u241, u242, u243, u244, u245, u246, u247, u248, u249, u250, u251, u252, u253], []⟩ wd) :
    (ifOf Try.f5 151).wp Try.prog (Exit.then K Q') ⟨#[u0, u1, u2, u3, u4, .pointer (some ⟨cb, 0, none⟩), u6, u7, u8, .pointer (some ⟨db, 0, none⟩), u10, u11, .slice an kk cn, u13, u14, u15, u16, u17, u18, u19, u20, u21, u22, u23, u24, u25, u26, u27, u28, u29, u30, u31, u32, u33, u34, u35, u36, u37, u38, u39, u40, u41, u42, u43, u44, u45, u46, u47, u48, u49, u50, u51, u52, u53, u54, u55, u56, u57, u58, u59, u60, u61, u62, u63, u64, u65, u66, u67, u68, u69, u70, u71, u72, u73, u74, u75, u76, u77, u78, u79, u80, u81, u82, u83, u84, u85, u86, u87, u88, u89, u90, u91, u92, u93, u94, u95, u96, u97, u98, u99, u100, u101, u102, u103, u104, u105, u106, u107, u108, u109, u110, u111, u112, u113, u114, u115, u116, u117, u118, u119, u120, u121, u122, u123, u124, u125, u126, u127, u128, u129, u130, u131, u132, u133, u134, u135, u136, u137, u138, u139, u140, u141, u142, u143, u144, u145, u146, u147, u148, u149, u150, .bool true, u152, u153, u154, u155, u156, u157, u158, u159, u160, u161, u162, u163, u164, u165, u166, u167, u168, u169, u170, u171, u172, u173, u174, u175, u176, u177, u178, u179, u180, u181, u182, u183, u184, u185, u186, u187, u188, u189, u190, u191, u192, u193, u194, u195, u196, u197, u198, u199, u200, u201, u202, u203, u204, u205, u206, u207, u208, u209, u210, u211, u212, u213, u214, u215, u216, u217, u218, u219, u220, u221, u222, u223, u224, u225, u226, u227, u228, u229, u230, u231, u232, u233, u234, u235, u236, u237, u238, u239, u240, u241, u242, u243, u244, u245, u246, u247, u248, u249, u250, u251, u252, u253], []⟩ w9 := by
  have HK := Lib.hid hK
  have hg1 : g ≤ 2 + 2 * (k : Int) := RM.out.gen
  have hg0 : 1 ≤ g := RM.out.may.gen
  have a0 := cell_of_row _ _ 0 _ _ _ D9.out
  have a2 := cell_of_row _ _ 2 _ _ _ D9.out
  have b0 := cell_of_row _ _ 0 _ _ _ W9.out.box
  have b2 := cell_of_row _ _ 2 _ _ _ W9.out.box
  dsimp only at b0 b2
  clear hK
  conv => arg 2; whnf
  go_wp2_with fail
  clear a0 a2 b0 b2
  go_loopw [13] (fun i wr => ∃ j : Nat, j ≤ kk + p ∧ i = .int .i64 j ∧ Hid (Below w9.heap.size w9 wr)) (fun i _ => kk + p - (intOf i).toNat)
  case atStart => exact ⟨0, by omega, rfl, Lib.hid (Below.refl _ _)⟩
  case round =>
    obtain ⟨j, hj, rfl, HW⟩ := hrel
    have WR := Lib.hid (W9.out.keep HW.out)
    have DR := Lib.hid ((HW.out.block _ (heap_lt D9.out)).trans D9.out)
    by_cases hlt : j < kk + p
    · obtain ⟨hsg, -, hle, -, -⟩ := WR.out.there.segs
      obtain ⟨-, sb, so, rfl, hsc⟩ := hsg j (by have := HN.out; dsimp only at this ⊢; omega)
      obtain ⟨d0, d1, d2, d3, d4⟩ := hsc
      have b2 := cell_of_row _ _ 2 _ _ _ WR.out.box
      dsimp only at d0 d1 d2 d3 d4 b2
      have bS := below_alloc wr (.cells #[.int .i64 (nthS S j).num, .int .i64 (nthS S j).base, .int .u32 (bv (nthS S j).seed), .int .i64 (nthS S j).end_, .int .i64 (nthS S j).size] 53)
      have nS := heap_alloc_new wr (.cells #[.int .i64 (nthS S j).num, .int .i64 (nthS S j).base, .int .u32 (bv (nthS S j).seed), .int .i64 (nthS S j).end_, .int .i64 (nthS S j).size] 53)
      have CS := Lib.hid (seg_new wr (nthS S j) 53)
      obtain ⟨w5, hw5⟩ : ∃ w5, wr.alloc (.cells #[.int .i64 (nthS S j).num, .int .i64 (nthS S j).base, .int .u32 (bv (nthS S j).seed), .int .i64 (nthS S j).end_, .int .i64 (nthS S j).size] 53) = w5 := ⟨_, rfl⟩
      rw [hw5] at bS nS CS
      have HW5 := Lib.hid (below_trans HW.out bS)
      have D5 := Lib.hid ((bS.block _ (heap_lt DR.out)).trans DR.out)
      have s0 := cell_of_row _ _ 0 _ _ _ nS
      have s1 := cell_of_row _ _ 1 _ _ _ nS
      have s2 := cell_of_row _ _ 2 _ _ _ nS
      have s3 := cell_of_row _ _ 3 _ _ _ nS
      have s4 := cell_of_row _ _ 4 _ _ _ nS
      have a1 := cell_of_row _ _ 1 _ _ _ D5.out
      have a2 := cell_of_row _ _ 2 _ _ _ D5.out
      clear bS nS hsg
      by_cases hjk : j < kk
      · obtain ⟨e1, e2, -⟩ := below_yes RM.out.may HKK.out hjk
        dsimp only at e1 e2
        have t1 : ((nthS S j).end_ != 0) = true := by simp [e1]
        obtain ⟨gg, rfl, hgc⟩ := (I9.out.keep HW5.out).get (i := j) (by rw [numsC_length (by have := HN.out; omega)]; exact hjk)
        rw [numsC_at hjk (by have := HN.out; omega)] at hgc
        clear e1
        go_wp2_with fail
        go_quiet (fail)
        go_wp2_with fail
        go_roundw
        case rel => exact ⟨j + 1, by omega, by go_num, below_trans HW5.out (below_drewN _ _)⟩
        case measure => simp [intOf]; omega
      · obtain ⟨i, rfl⟩ : ∃ i, j = kk + i := ⟨j - kk, by omega⟩
        have hbn := below_no RM.out.may HKK.out (k := kk + i) (by omega) (by have := HN.out; dsimp only; omega)
        dsimp only at hbn
        have hT : 1 ≤ T := RC.out.may.first
        obtain ⟨hsr, -⟩ := (R9.out.keep HW5.out).at.segs
        dsimp only at hsr
        obtain ⟨-, rb, ro, rfl, hrc⟩ := hsr i (by rw [List.length_drop]; have := HN.out; omega)
        rw [nthS_drop] at hrc
        have RCELL := Lib.hid (show SegCells w5 rb (ro + (kk + i - kk) * 5) (nthS S (kk + i)) by rw [Nat.add_sub_cancel_left]; exact hrc)
        have ip : (i : Int) < (p : Int) := by omega
        have q2 : decide ((kk : Int) + (i : Int) < (kk : Int)) = false := decide_eq_false (by omega)
        clear hjk hsr hrc
        rcases hbn with hz | hz
        · have t1 : ((nthS S (kk + i)).end_ != 0) = false := by simp [hz]
          clear hz
          go_wp2_with fail
          refine wp_region_quiet_lit (by kernel_rfl) (by kernel_rfl) ?_
          repeat (go_big_quiet_step (fail))
          refine wpQuiet_load_on (op := ⟨some 221, _, _, _, _, _⟩) (by kernel_rfl) 53 _ rfl rb (ro + (kk + i - kk) * 5) rfl (segL (nthS S (kk + i))) _ (fun w hw => by obtain ⟨n, rfl⟩ := hw; exact (RCELL.out.below (below_drewN _ n)).range) Try.underlying53 rfl Try.sizeSeg ?_
          simp only [Act.put, List.setIfInBounds_toArray, List.set_cons_zero, List.set_cons_succ]
          unfold segL
          repeat (go_big_quiet_step (fail))
          refine wpQuiet_nil ?_
          intro _ hw'
          obtain ⟨nq, hw''⟩ := hw'
          subst hw''
          go_wp2_with fail
          go_roundw
          case rel => exact ⟨kk + i + 1, by omega, by go_num, below_trans HW5.out (below_drewN _ _)⟩
          case measure => simp [intOf]; omega
        · have t1 : ((nthS S (kk + i)).end_ != 0) = true := by simp; omega
          have t3 : decide ((nthS S (kk + i)).end_ ≤ T) = false := by simp; omega
          go_wp2_with fail
          refine wp_region_quiet_lit (by kernel_rfl) (by kernel_rfl) ?_
          repeat (go_big_quiet_step (fail))
          refine wpQuiet_load_on (op := ⟨some 221, _, _, _, _, _⟩) (by kernel_rfl) 53 _ rfl rb (ro + (kk + i - kk) * 5) rfl (segL (nthS S (kk + i))) _ (fun w hw => by obtain ⟨n, rfl⟩ := hw; exact (RCELL.out.below (below_drewN _ n)).range) Try.underlying53 rfl Try.sizeSeg ?_
          simp only [Act.put, List.setIfInBounds_toArray, List.set_cons_zero, List.set_cons_succ]
          unfold segL
          repeat (go_big_quiet_step (fail))
          refine wpQuiet_nil ?_
          intro _ hw'
          obtain ⟨nq, hw''⟩ := hw'
          subst hw''
          go_wp2_with fail
          go_roundw
          case rel => exact ⟨kk + i + 1, by omega, by go_num, below_trans HW5.out (below_drewN _ _)⟩
          case measure => simp [intOf]; omega
    · obtain rfl : j = kk + p := by omega
      have a0 := cell_of_row _ _ 0 _ _ _ DR.out
      have a1 := cell_of_row _ _ 1 _ _ _ DR.out
      have a2 := cell_of_row _ _ 2 _ _ _ DR.out
      have b0 := cell_of_row _ _ 0 _ _ _ WR.out.box
      have b1 := cell_of_row _ _ 1 _ _ _ WR.out.box
      have b2 := cell_of_row _ _ 2 _ _ _ WR.out.box
      have f0 := frozen_of_row _ _ 0 _ _ WR.out.box
      have f1 := frozen_of_row _ _ 1 _ _ WR.out.box
      have f2 := frozen_of_row _ _ 2 _ _ WR.out.box
      dsimp only at b0 b1 b2
      go_wp2_with fail
      refine HK.out (g + 1) T ar p cr (S.drop kk) _ _ _ _ _ _ _ _ _ _ _ _ _ _ _ _ _ _ _ _ _ _ _ _ _ _ _ _ _ _ _ _ _ _ _ _ _ _ _ _ _ _ _ _ _ _ _ _ _ _ _ _ _ _ _ _ _ _ _ _ _ _ _ _ _ _ _ _ _ _ _ _ _ _ _ _ _ _ _ _ ?_
      exact ⟨RC.out, (R9.out.keep HW.out).laid WR.out.box LB.out, put3_below (below_trans B9.out HW.out) CB.out _ _ _⟩
end Go.Proofs.Ytmkljmljbbijeaa

/- The walk of the document's Write. -/
import Derived.Test.YtmkljmljbbijeaaCatNumber
import Derived.Test.YtmkljmljbbijeaaCatRef
import Derived.Test.YtmkljmljbbijeaaCatRefRead
import Derived.Test.YtmkljmljbbijeaaBytesFull
import Derived.Test.YtmkljmljbbijeaaWireForms
namespace Go.Proofs.Ytmkljmljbbijeaa
open Go.RowKit

theorem ref_num (x n : Int) (w : World) (hx : x = bv (BitVec.ofInt 64 n)) :
    Calls Try.prog 59 #[.int .u64 x] w fun e w' => ∃ ao D c, e = .returned (.slice ao D.length c) ∧ D = numL n ∧ BytesAt w' ao D ∧ (ao = none → c = 0) ∧ Below w.heap.size w w' := by
  subst hx
  refine (ref_varint (BitVec.ofInt 64 n) w).mono ?_
  rintro e w' ⟨v, rfl, ho, hb⟩
  obtain ⟨ao, cap, rfl, h1, h2, -, -, -⟩ := ho.slice
  exact ⟨ao, _, cap, rfl, rfl, h1, h2, hb⟩
theorem ref_fix4 (x : Int) (s : BitVec 32) (w : World) (hx : x = bv (s.setWidth 64)) :
    Calls Try.prog 62 #[.int .u64 x, .int .i64 4] w fun e w' => ∃ ao D c, e = .returned (.slice ao D.length c) ∧ D = fixedL (s.setWidth 64) 4 ∧ BytesAt w' ao D ∧ (ao = none → c = 0) ∧ Below w.heap.size w w' := by
  refine (ref_fixed_to x (s.setWidth 64) 4 w hx (by omega)).mono ?_
  rintro e w' ⟨v, rfl, ho, hb⟩
  obtain ⟨ao, cap, rfl, h1, h2, -, -, -⟩ := ho.slice
  exact ⟨ao, _, cap, rfl, rfl, h1, h2, hb⟩
theorem ref_sum_to (v : Value) (base : Nat) (bs : List (BitVec 8)) (w : World) (ho : OwnB w base v bs) (hm : bs.length ≤ 140737488351232) :
    Calls Try.prog 74 #[v] w fun e w' => e = .returned (.int .u32 (bv (Crc.sum bs))) ∧ w = w' := by
  obtain ⟨ao, cap, rfl, hb, -, -, -, -⟩ := ho.slice
  exact ref_sum_n ao bs _ cap w hb rfl hm
def numAt (gen first : Int) (n k : Nat) : Int := if k = 0 then gen else if k = 1 then first else (n : Int)
def headB (gen first : Int) (n : Nat) : Nat → List (BitVec 8)
  | 0 => fcatL
  | k + 1 => headB gen first n k ++ numL (numAt gen first n k)
theorem headB_len (gen first : Int) (n : Nat) : ∀ k, (headB gen first n k).length ≤ 4 + 10 * k
  | 0 => by show 4 ≤ _; omega
  | k + 1 => by rw [headB, List.length_append]; have := headB_len gen first n k; have := numL_len (numAt gen first n k); omega

set_option maxRecDepth 100000 in
theorem ref_write_no (gen first : Int) (ao : Option Addr) (n ca : Nat) (L : List SegV) (w : World) (hA : CatAt w (.agg #[.int .i64 gen, .int .i64 first, .slice ao n ca]) ⟨gen, first, L⟩) (hM : ¬ MayC ⟨gen, first, L⟩) :
    Calls Try.prog 18 #[.agg #[.int .i64 gen, .int .i64 first, .slice ao n ca]] w fun e w' => e = .returned (.tuple #[.slice none 0 0, .int .i64 4]) ∧ Below w.heap.size w w' := by
  have b1 := below_alloc w (.cells #[.int .i64 gen, .int .i64 first, .slice ao n ca] 29)
  have hn1 := heap_alloc_new w (.cells #[.int .i64 gen, .int .i64 first, .slice ao n ca] 29)
  obtain ⟨w1, hw1⟩ : ∃ w1, w.alloc (.cells #[.int .i64 gen, .int .i64 first, .slice ao n ca] 29) = w1 := ⟨_, rfl⟩
  rw [hw1] at b1 hn1
  have k0 := cell_of_row _ _ 0 _ _ _ hn1
  have k1 := cell_of_row _ _ 1 _ _ _ hn1
  have k2 := cell_of_row _ _ 2 _ _ _ hn1
  have HA := Lib.hid (hA.below b1)
  have HB := Lib.hid b1
  have HM := Lib.hid hM
  clear b1 hn1 hA hM
  go_enter Try.func18, Try.ntmps18
  go_wp2_with fail
  refine (ref_may _ _ _ HA.out false (by simp [HM.out])).mono ?_
  rintro e w2 ⟨rfl, hb2⟩
  have HB2 := Lib.hid (below_trans HB.out hb2)
  clear hb2
  go_wp2_with fail
  go_ret2
  exact ⟨rfl, HB2.out⟩

set_option maxRecDepth 100000 in
set_option maxHeartbeats 8000000 in
theorem ref_write_ok (gen first : Int) (ao : Option Addr) (n ca : Nat) (L : List SegV) (w : World) (hn : L.length = n) (hA : CatAt w (.agg #[.int .i64 gen, .int .i64 first, .slice ao n ca]) ⟨gen, first, L⟩) (hM : MayC ⟨gen, first, L⟩) :
    Calls Try.prog 18 #[.agg #[.int .i64 gen, .int .i64 first, .slice ao n ca]] w fun e w' => ∃ v, e = .returned (.tuple #[v, .int .i64 0]) ∧ OwnB w' w.heap.size v (catB ⟨gen, first, L⟩) ∧ Below w.heap.size w w' := by
  have hn64 : 1 ≤ n ∧ n ≤ 64 := by have h1 := hM.some; have h2 := hM.few; dsimp only at h1 h2; omega
  obtain ⟨N1, N64⟩ := hn64
  obtain ⟨ao', ca', e1, hsg, -⟩ := hA.shape
  injection e1 with e1
  simp only [Array.mk.injEq, List.cons.injEq, Value.slice.injEq, and_true, true_and] at e1
  obtain ⟨rfl, -, rfl⟩ := e1
  dsimp only at hsg
  have b1 := below_alloc w (.cells #[.int .i64 gen, .int .i64 first, .slice ao n ca] 29)
  have hn1 := heap_alloc_new w (.cells #[.int .i64 gen, .int .i64 first, .slice ao n ca] 29)
  obtain ⟨w1, hw1⟩ : ∃ w1, w.alloc (.cells #[.int .i64 gen, .int .i64 first, .slice ao n ca] 29) = w1 := ⟨_, rfl⟩
  rw [hw1] at b1 hn1
  have k0 := cell_of_row _ _ 0 _ _ _ hn1
  have k1 := cell_of_row _ _ 1 _ _ _ hn1
  have k2 := cell_of_row _ _ 2 _ _ _ hn1
  have HC := Lib.hid hn1
  have HA := Lib.hid (hA.below b1)
  have HS := Lib.hid (hsg.below b1)
  have HB := Lib.hid b1
  have HN := Lib.hid hn
  have HM := Lib.hid hM
  clear b1 hn1 hA hsg hM hn
  go_enter Try.func18, Try.ntmps18
  go_wp2_with fail
  refine (ref_may _ _ _ HA.out true (by simp [HM.out])).mono ?_
  rintro e w2 ⟨rfl, hb2⟩
  have kc := fcat_conv w2 w2.heap.size rfl
  have FA := Lib.hid (fcat_at w2 (4, 5))
  have bm := below_alloc w2 (.cells #[.int .u8 70, .int .u8 67, .int .u8 65, .int .u8 84] 5 (4, 5))
  obtain ⟨w3, hw3⟩ : ∃ w3, w2.alloc (.cells #[.int .u8 70, .int .u8 67, .int .u8 65, .int .u8 84] 5 (4, 5)) = w3 := ⟨_, rfl⟩
  rw [hw3] at kc FA bm
  have B13 := Lib.hid (below_trans hb2 bm)
  have C3 := (B13.out.block _ (heap_lt HC.out)).trans HC.out
  clear k0 k1 k2 hb2 bm
  have k0 := cell_of_row _ _ 0 _ _ _ C3
  have k1 := cell_of_row _ _ 1 _ _ _ C3
  have k2 := cell_of_row _ _ 2 _ _ _ C3
  have u0 := u64_of gen
  have u1 := u64_of first
  have u2 : IntKind.u64.wrap (n : Int) = bv (BitVec.ofNat 64 n) := by rw [u64_of n]; simp
  have bL := below_alloc w3 (.cells #[.int .u64 (bv (BitVec.ofInt 64 gen)), .int .u64 (bv (BitVec.ofInt 64 first)), .int .u64 (bv (BitVec.ofNat 64 n))] 96)
  have nL := heap_alloc_new w3 (.cells #[.int .u64 (bv (BitVec.ofInt 64 gen)), .int .u64 (bv (BitVec.ofInt 64 first)), .int .u64 (bv (BitVec.ofNat 64 n))] 96)
  obtain ⟨w4, hw4⟩ : ∃ w4, w3.alloc (.cells #[.int .u64 (bv (BitVec.ofInt 64 gen)), .int .u64 (bv (BitVec.ofInt 64 first)), .int .u64 (bv (BitVec.ofNat 64 n))] 96) = w4 := ⟨_, rfl⟩
  rw [hw4] at bL nL
  have B14 := Lib.hid (below_trans B13.out bL)
  have FA4 := Lib.hid (FA.out.below bL)
  have NL := Lib.hid nL
  have NK : Hid (∀ k, k < 3 → w4.cell? ⟨w3.heap.size, k, none⟩ = some (.int .u64 (bv (BitVec.ofInt 64 (numAt gen first n k))))) := Lib.hid fun k hk => by
    rw [cell_of_row _ _ k _ _ _ NL.out]
    match k, hk with
    | 0, _ => rfl
    | 1, _ => rfl
    | 2, _ =>
      show some (Value.int .u64 (bv (BitVec.ofNat 64 n))) = some (Value.int .u64 (bv (BitVec.ofInt 64 (n : Int))))
      simp
  clear C3 bL nL FA
  go_wp2_with fail
  clear k0 k1 k2 u0 u1 u2 kc
  go_loopw [6, 4] (fun i b wr => ∃ (k : Nat), k ≤ 3 ∧ i = .int .i64 k ∧ Hid (Below w4.heap.size w4 wr) ∧ Hid ((k = 0 ∧ b = .slice (some ⟨w2.heap.size, 0, none⟩) 4 4) ∨ (1 ≤ k ∧ OwnB wr w4.heap.size b (headB gen first n k)))) (fun i _ _ => 3 - (intOf i).toNat)
  case atStart => exact ⟨0, by omega, rfl, Lib.hid (Below.refl _ _), Lib.hid (.inl ⟨rfl, rfl⟩)⟩
  case round =>
    obtain ⟨k, hk, rfl, HW, HV⟩ := hrel
    by_cases hlt : k < 3
    · have kz : (k : Int) < 3 := by omega
      have cc := cell_keep HW.out (NK.out k hlt)
      rcases HV.out with ⟨rfl, rfl⟩ | ⟨h1, ho⟩
      · have cc0 : wr.cell? ⟨w3.heap.size, 0, none⟩ = some (.int .u64 (bv (BitVec.ofInt 64 (numAt gen first n 0)))) := cc
        clear cc
        go_wp2_with fail
        refine (ref_num _ (numAt gen first n 0) wr rfl).mono ?_
        rintro e y1 ⟨au, D, cu, rfl, hD, xu, nu, hby⟩
        have ED := Lib.hid hD
        have LD := Lib.hid (show 1 ≤ D.length ∧ D.length ≤ 10 by rw [hD]; exact numL_len _)
        have XU := Lib.hid xu
        have HW1 := Lib.hid (below_trans HW.out hby)
        have F1 := Lib.hid (FA4.out.below HW1.out)
        clear hD xu nu hby cc0
        go_wp2_with (refine wpList_append_full (o := ⟨some 35, _, _, _, _, _⟩) rfl _ _ rfl w4.heap.size _ fcatL 4 4 rfl rfl F1.out au D.length cu D rfl rfl XU.out (by have := LD.out; show 4 < 4 + _; omega) (by have := LD.out; omega) (by have := LD.out; show 4 + _ ≤ _; omega) HW1.out.size ?_)
        intro v2 y2 ho2 hg2
        have HW2 := Lib.hid (show Below w4.heap.size w4 y2 from HW1.out.grown hg2 HW1.out.size (fun k e => by cases e))
        have O2 := Lib.hid (show OwnB y2 w4.heap.size v2 (headB gen first n 1) by rw [headB, headB, ← ED.out]; exact ho2)
        clear ho2 hg2
        go_wp2_with fail
        go_roundw
        case rel => exact ⟨1, by omega, rfl, HW2.out, .inr ⟨by omega, O2.out⟩⟩
        case measure => simp [intOf]
      · have O1 := Lib.hid ho
        have h1z : 1 ≤ (k : Int) := by omega
        clear ho
        obtain ⟨X, hX⟩ : ∃ X, headB gen first n k = X := ⟨_, rfl⟩
        rw [hX] at O1
        have EX := Lib.hid hX
        have LX := Lib.hid (show X.length ≤ 34 by rw [← hX]; have := headB_len gen first n k; omega)
        clear hX HV
        go_wp2_with fail
        refine (ref_num _ (numAt gen first n k) wr rfl).mono ?_
        rintro e y1 ⟨au, D, cu, rfl, hD, xu, nu, hby⟩
        have ED := Lib.hid hD
        have LD := Lib.hid (show 1 ≤ D.length ∧ D.length ≤ 10 by rw [hD]; exact numL_len _)
        have XU := Lib.hid xu
        have NU := Lib.hid nu
        have HW1 := Lib.hid (below_trans HW.out hby)
        have OV := Lib.hid (O1.out.keep hby)
        clear hD xu nu hby cc
        go_wp2_with (refine wpList_append_bytes (o := ⟨some 35, _, _, _, _, _⟩) rfl _ _ rfl w4.heap.size _ X rfl OV.out au D.length cu D rfl rfl XU.out NU.out (by have := LD.out; have := LX.out; omega) HW1.out.size ?_)
        intro v2 y2 ho2 hg2 hi2
        have HW2 := Lib.hid (show Below w4.heap.size w4 y2 from HW1.out.grown hg2 HW1.out.size (fun k e => (rows_blk OV.out e).1))
        have O2 := Lib.hid (show OwnB y2 w4.heap.size v2 (headB gen first n (k + 1)) by rw [headB, ← ED.out, EX.out]; exact ho2)
        clear ho2 hg2 hi2
        go_wp2_with fail
        go_roundw
        case rel => exact ⟨k + 1, by omega, by go_num, HW2.out, .inr ⟨by omega, O2.out⟩⟩
        case measure => simp [intOf]; omega
    · have K3 : Hid (k = 3) := Lib.hid (by omega)
      have O3 : Hid (OwnB wr w4.heap.size u4 (preB ⟨gen, first, L⟩)) := Lib.hid (by
        rcases HV.out with ⟨h, -⟩ | ⟨-, ho⟩
        · have := K3.out; omega
        · have e : headB gen first n 3 = preB ⟨gen, first, L⟩ := by
            have hN : L.length = n := HN.out
            simp [headB, preB, numAt, hN]
          rw [K3.out, e] at ho
          exact ho)
      obtain ⟨PB, hPB⟩ : ∃ PB, preB ⟨gen, first, L⟩ = PB := ⟨_, rfl⟩
      rw [hPB] at O3
      have EP := Lib.hid hPB
      have LP := Lib.hid (show PB.length ≤ 34 by rw [← hPB]; exact preB_len _)
      have CW : Hid (∀ W : World, Below w4.heap.size w4 W → W.heap[w.heap.size]? = some (.cells #[.int .i64 gen, .int .i64 first, .slice ao n ca] 29 (0, 0)) ∧ SegsAt W ao L) := Lib.hid fun W hW => by
        have h := below_trans B14.out hW
        exact ⟨(h.block _ (heap_lt HC.out)).trans HC.out, HS.out.below h⟩
      have k3z : ¬ (k : Int) < 3 := by omega
      clear hPB hlt hk HV NK NL FA4
      have k2 := cell_of_row _ _ 2 _ _ _ (CW.out wr HW.out).1
      obtain ⟨j, hj⟩ : ∃ j, k = j := ⟨_, rfl⟩
      subst hj
      go_wp2_with fail
      clear k2
      go_loopw [7, 4] (fun i b wr => ∃ (k : Nat), k ≤ n ∧ i = .int .i64 k ∧ Hid (Below w4.heap.size w4 wr) ∧ Hid (OwnB wr w4.heap.size b (PB ++ segsB L k))) (fun i _ _ => n - (intOf i).toNat)
      case atStart => exact ⟨0, by omega, rfl, HW, Lib.hid (by rw [show segsB L 0 = [] from rfl, List.append_nil]; exact O3.out)⟩
      case round =>
        clear O3 HW
        obtain ⟨k, hk, rfl, HW, HV⟩ := hrel
        obtain ⟨hcw, hsw⟩ := CW.out wr HW.out
        have k2 := cell_of_row _ _ 2 _ _ _ hcw
        by_cases hlt : k < n
        · obtain ⟨-, b, off, rfl, hc⟩ := hsw k (by have := HN.out; omega)
          obtain ⟨d0, d1, d2, d3, d4⟩ := hc
          obtain ⟨s, hs⟩ : ∃ s, nthS L k = s := ⟨_, rfl⟩
          rw [hs] at d0 d1 d2 d3 d4
          have HSK := Lib.hid hs
          obtain ⟨X0, hX0⟩ : ∃ X0, PB ++ segsB L k = X0 := ⟨_, rfl⟩
          have EX0 := Lib.hid hX0
          rw [hX0] at HV
          have LX0 := Lib.hid (show X0.length ≤ 3000 by rw [← hX0, List.length_append]; have := LP.out; have := segsB_len L k; omega)
          have bq := below_alloc wr (.cells #[.int .i64 s.num, .int .i64 s.base, .int .u32 (bv s.seed), .int .i64 s.end_, .int .i64 s.size] 53)
          have hq := heap_alloc_new wr (.cells #[.int .i64 s.num, .int .i64 s.base, .int .u32 (bv s.seed), .int .i64 s.end_, .int .i64 s.size] 53)
          obtain ⟨x1, hx1⟩ : ∃ x1, wr.alloc (.cells #[.int .i64 s.num, .int .i64 s.base, .int .u32 (bv s.seed), .int .i64 s.end_, .int .i64 s.size] 53) = x1 := ⟨_, rfl⟩
          rw [hx1] at bq hq
          obtain ⟨q, hqq⟩ : ∃ q, wr.heap.size = q := ⟨_, rfl⟩
          rw [hqq] at hq
          have kz : (k : Int) < (n : Int) := by omega
          have HX0 := Lib.hid (HV.out.keep bq)
          have W0 := Lib.hid (below_trans HW.out bq)
          have R0 := Lib.hid (show RowS x1 q s from hq)
          clear bq hq hs hX0 HV HW hcw hsw
          have m0 := u64_of s.num
          have m1 := u64_of s.base
          have m3 := u64_of s.end_
          have m4 := u64_of s.size
          have m2 := wrap_u64_bv s.seed
          have r0 := cell_of_row _ _ 0 _ _ _ (show x1.heap[q]? = some (.cells #[.int .i64 s.num, .int .i64 s.base, .int .u32 (bv s.seed), .int .i64 s.end_, .int .i64 s.size] 53 (0, 0)) from R0.out)
          go_wp2_with fail
          refine (ref_num _ s.num x1 (by first | rfl | exact u64_of s.num)).mono ?_
          rintro e y1 ⟨au1, D1, cu1, rfl, hD, xu, nu, hby⟩
          have ED1 := Lib.hid hD
          have LD1 := Lib.hid (show D1.length ≤ 10 by rw [hD]; have := numL_len s.num; omega)
          have XU1 := Lib.hid xu
          have NU1 := Lib.hid nu
          have V1 := Lib.hid (below_trans W0.out hby)
          have OV1 := Lib.hid (HX0.out.keep hby)
          have RV1 := Lib.hid (R0.out.below hby)
          clear hD xu nu hby r0
          go_wp2_with (refine wpList_append_bytes (o := ⟨some 53, _, _, _, _, _⟩) rfl _ _ rfl w4.heap.size _ X0 rfl OV1.out au1 D1.length cu1 D1 rfl rfl XU1.out NU1.out (by have := LD1.out; have := LX0.out; omega) V1.out.size ?_)
          intro v1 z1 ho hg hi
          obtain ⟨X1, hX⟩ : ∃ X1, X0 ++ D1 = X1 := ⟨_, rfl⟩
          rw [hX] at ho
          have EX1 := Lib.hid hX
          have LX1 := Lib.hid (show X1.length ≤ 3010 by rw [← hX, List.length_append]; have := LX0.out; have := LD1.out; omega)
          have HX1 := Lib.hid ho
          have W1 := Lib.hid (show Below w4.heap.size w4 z1 from V1.out.grown hg V1.out.size (fun k e => (rows_blk OV1.out e).1))
          have R1 := Lib.hid (show RowS z1 q s from (hg.block q (heap_lt RV1.out) (own_not_seg OV1.out RV1.out).symm).trans RV1.out)
          clear ho hg hi hX
          have r1 := cell_of_row _ _ 1 _ _ _ (show z1.heap[q]? = some (.cells #[.int .i64 s.num, .int .i64 s.base, .int .u32 (bv s.seed), .int .i64 s.end_, .int .i64 s.size] 53 (0, 0)) from R1.out)
          go_wp2_with fail
          refine (ref_num _ s.base z1 (by first | rfl | exact u64_of s.base)).mono ?_
          rintro e y2 ⟨au2, D2, cu2, rfl, hD, xu, nu, hby⟩
          have ED2 := Lib.hid hD
          have LD2 := Lib.hid (show D2.length ≤ 10 by rw [hD]; have := numL_len s.base; omega)
          have XU2 := Lib.hid xu
          have NU2 := Lib.hid nu
          have V2 := Lib.hid (below_trans W1.out hby)
          have OV2 := Lib.hid (HX1.out.keep hby)
          have RV2 := Lib.hid (R1.out.below hby)
          clear hD xu nu hby r1
          go_wp2_with (refine wpList_append_bytes (o := ⟨some 59, _, _, _, _, _⟩) rfl _ _ rfl w4.heap.size _ X1 rfl OV2.out au2 D2.length cu2 D2 rfl rfl XU2.out NU2.out (by have := LD2.out; have := LX1.out; omega) V2.out.size ?_)
          intro v2 z2 ho hg hi
          obtain ⟨X2, hX⟩ : ∃ X2, X1 ++ D2 = X2 := ⟨_, rfl⟩
          rw [hX] at ho
          have EX2 := Lib.hid hX
          have LX2 := Lib.hid (show X2.length ≤ 3020 by rw [← hX, List.length_append]; have := LX1.out; have := LD2.out; omega)
          have HX2 := Lib.hid ho
          have W2 := Lib.hid (show Below w4.heap.size w4 z2 from V2.out.grown hg V2.out.size (fun k e => (rows_blk OV2.out e).1))
          have R2 := Lib.hid (show RowS z2 q s from (hg.block q (heap_lt RV2.out) (own_not_seg OV2.out RV2.out).symm).trans RV2.out)
          clear ho hg hi hX
          have r2 := cell_of_row _ _ 2 _ _ _ (show z2.heap[q]? = some (.cells #[.int .i64 s.num, .int .i64 s.base, .int .u32 (bv s.seed), .int .i64 s.end_, .int .i64 s.size] 53 (0, 0)) from R2.out)
          go_wp2_with fail
          refine (ref_fix4 _ s.seed z2 (by first | rfl | exact (wrap_u64_bv s.seed))).mono ?_
          rintro e y3 ⟨au3, D3, cu3, rfl, hD, xu, nu, hby⟩
          have ED3 := Lib.hid hD
          have LD3 := Lib.hid (show D3.length ≤ 10 by rw [hD]; rw [fixedL_len]; omega)
          have XU3 := Lib.hid xu
          have NU3 := Lib.hid nu
          have V3 := Lib.hid (below_trans W2.out hby)
          have OV3 := Lib.hid (HX2.out.keep hby)
          have RV3 := Lib.hid (R2.out.below hby)
          clear hD xu nu hby r2
          go_wp2_with (refine wpList_append_bytes (o := ⟨some 65, _, _, _, _, _⟩) rfl _ _ rfl w4.heap.size _ X2 rfl OV3.out au3 D3.length cu3 D3 rfl rfl XU3.out NU3.out (by have := LD3.out; have := LX2.out; omega) V3.out.size ?_)
          intro v3 z3 ho hg hi
          obtain ⟨X3, hX⟩ : ∃ X3, X2 ++ D3 = X3 := ⟨_, rfl⟩
          rw [hX] at ho
          have EX3 := Lib.hid hX
          have LX3 := Lib.hid (show X3.length ≤ 3030 by rw [← hX, List.length_append]; have := LX2.out; have := LD3.out; omega)
          have HX3 := Lib.hid ho
          have W3 := Lib.hid (show Below w4.heap.size w4 z3 from V3.out.grown hg V3.out.size (fun k e => (rows_blk OV3.out e).1))
          have R3 := Lib.hid (show RowS z3 q s from (hg.block q (heap_lt RV3.out) (own_not_seg OV3.out RV3.out).symm).trans RV3.out)
          clear ho hg hi hX
          have r3 := cell_of_row _ _ 3 _ _ _ (show z3.heap[q]? = some (.cells #[.int .i64 s.num, .int .i64 s.base, .int .u32 (bv s.seed), .int .i64 s.end_, .int .i64 s.size] 53 (0, 0)) from R3.out)
          go_wp2_with fail
          refine (ref_num _ s.end_ z3 (by first | rfl | exact u64_of s.end_)).mono ?_
          rintro e y4 ⟨au4, D4, cu4, rfl, hD, xu, nu, hby⟩
          have ED4 := Lib.hid hD
          have LD4 := Lib.hid (show D4.length ≤ 10 by rw [hD]; have := numL_len s.end_; omega)
          have XU4 := Lib.hid xu
          have NU4 := Lib.hid nu
          have V4 := Lib.hid (below_trans W3.out hby)
          have OV4 := Lib.hid (HX3.out.keep hby)
          have RV4 := Lib.hid (R3.out.below hby)
          clear hD xu nu hby r3
          go_wp2_with (refine wpList_append_bytes (o := ⟨some 71, _, _, _, _, _⟩) rfl _ _ rfl w4.heap.size _ X3 rfl OV4.out au4 D4.length cu4 D4 rfl rfl XU4.out NU4.out (by have := LD4.out; have := LX3.out; omega) V4.out.size ?_)
          intro v4 z4 ho hg hi
          obtain ⟨X4, hX⟩ : ∃ X4, X3 ++ D4 = X4 := ⟨_, rfl⟩
          rw [hX] at ho
          have EX4 := Lib.hid hX
          have LX4 := Lib.hid (show X4.length ≤ 3040 by rw [← hX, List.length_append]; have := LX3.out; have := LD4.out; omega)
          have HX4 := Lib.hid ho
          have W4 := Lib.hid (show Below w4.heap.size w4 z4 from V4.out.grown hg V4.out.size (fun k e => (rows_blk OV4.out e).1))
          have R4 := Lib.hid (show RowS z4 q s from (hg.block q (heap_lt RV4.out) (own_not_seg OV4.out RV4.out).symm).trans RV4.out)
          clear ho hg hi hX
          have r4 := cell_of_row _ _ 4 _ _ _ (show z4.heap[q]? = some (.cells #[.int .i64 s.num, .int .i64 s.base, .int .u32 (bv s.seed), .int .i64 s.end_, .int .i64 s.size] 53 (0, 0)) from R4.out)
          go_wp2_with fail
          refine (ref_num _ s.size z4 (by first | rfl | exact u64_of s.size)).mono ?_
          rintro e y5 ⟨au5, D5, cu5, rfl, hD, xu, nu, hby⟩
          have ED5 := Lib.hid hD
          have LD5 := Lib.hid (show D5.length ≤ 10 by rw [hD]; have := numL_len s.size; omega)
          have XU5 := Lib.hid xu
          have NU5 := Lib.hid nu
          have V5 := Lib.hid (below_trans W4.out hby)
          have OV5 := Lib.hid (HX4.out.keep hby)
          have RV5 := Lib.hid (R4.out.below hby)
          clear hD xu nu hby r4
          go_wp2_with (refine wpList_append_bytes (o := ⟨some 77, _, _, _, _, _⟩) rfl _ _ rfl w4.heap.size _ X4 rfl OV5.out au5 D5.length cu5 D5 rfl rfl XU5.out NU5.out (by have := LD5.out; have := LX4.out; omega) V5.out.size ?_)
          intro v5 z5 ho hg hi
          obtain ⟨X5, hX⟩ : ∃ X5, X4 ++ D5 = X5 := ⟨_, rfl⟩
          rw [hX] at ho
          have EX5 := Lib.hid hX
          have LX5 := Lib.hid (show X5.length ≤ 3050 by rw [← hX, List.length_append]; have := LX4.out; have := LD5.out; omega)
          have HX5 := Lib.hid ho
          have W5 := Lib.hid (show Below w4.heap.size w4 z5 from V5.out.grown hg V5.out.size (fun k e => (rows_blk OV5.out e).1))
          have R5 := Lib.hid (show RowS z5 q s from (hg.block q (heap_lt RV5.out) (own_not_seg OV5.out RV5.out).symm).trans RV5.out)
          clear ho hg hi hX
          have F : Hid (OwnB z5 w4.heap.size v5 (PB ++ segsB L (k + 1))) := Lib.hid (by
            have e : X5 = PB ++ segsB L (k + 1) := by
              rw [← segsB_succ (by have := HN.out; omega), HSK.out, ← List.append_assoc, EX0.out, segB, ← ED1.out, ← ED2.out, ← ED3.out, ← ED4.out, ← ED5.out]
              simp only [← List.append_assoc]
              rw [EX1.out, EX2.out, EX3.out, EX4.out, EX5.out]
            rw [← e]; exact HX5.out)
          clear m0 m1 m2 m3 m4
          go_wp2_with fail
          go_roundw
          case rel => exact ⟨k + 1, by omega, by go_num, W5.out, F.out⟩
          case measure => simp [intOf]; omega
        · obtain rfl : k = n := by omega
          have BARE : Hid (OwnB wr w4.heap.size u4 (bareB ⟨gen, first, L⟩)) := Lib.hid (by
            unfold bareB
            dsimp only
            rw [EP.out, ← segsB_all, HN.out]
            exact HV.out)
          have LBR := Lib.hid (show (bareB ⟨gen, first, L⟩).length ≤ 2996 by unfold bareB; rw [List.length_append]; have := preB_len ⟨gen, first, L⟩; have := flatB_len L; have := HN.out; dsimp only at *; omega)
          have CB := Lib.hid (show catB ⟨gen, first, L⟩ = bareB ⟨gen, first, L⟩ ++ fixedL ((Crc.sum (bareB ⟨gen, first, L⟩)).setWidth 64) 4 from rfl)
          obtain ⟨BR, hBR⟩ : ∃ BR, bareB ⟨gen, first, L⟩ = BR := ⟨_, rfl⟩
          rw [hBR] at BARE LBR CB
          have m2 := wrap_u64_bv (Crc.sum BR)
          clear hBR HV hcw hsw
          go_wp2_with fail
          refine (ref_sum_to u4 w4.heap.size BR wr BARE.out (by have := LBR.out; omega)).mono ?_
          rintro e y0 ⟨rfl, rfl⟩
          go_wp2_with fail
          refine (ref_fix4 _ (Crc.sum BR) wr (by first | rfl | exact (wrap_u64_bv (Crc.sum BR)))).mono ?_
          rintro e y1 ⟨au, D, cu, rfl, hD, xu, nu, hby⟩
          have ED := Lib.hid hD
          have LD := Lib.hid (show D.length ≤ 10 by rw [hD, fixedL_len]; omega)
          have XU := Lib.hid xu
          have NU := Lib.hid nu
          have V1 := Lib.hid (below_trans HW.out hby)
          have OV := Lib.hid (BARE.out.keep hby)
          clear hD xu nu hby k2
          go_wp2_with (refine wpList_append_bytes (o := ⟨some 83, _, _, _, _, _⟩) rfl _ _ rfl w4.heap.size _ BR rfl OV.out au D.length cu D rfl rfl XU.out NU.out (by have := LD.out; have := LBR.out; omega) V1.out.size ?_)
          intro v1 z1 ho hg hi
          have F : Hid (OwnB z1 w4.heap.size v1 (catB ⟨gen, first, L⟩)) := Lib.hid (by rw [CB.out, ← ED.out]; exact ho)
          have G := Lib.hid (show Below w4.heap.size w4 z1 from V1.out.grown hg V1.out.size (fun k e => (rows_blk OV.out e).1))
          clear ho hg hi m2
          go_wp2_with fail
          go_ret2
          have hfin := below_trans HB.out (below_trans B14.out G.out)
          exact ⟨_, rfl, OwnB.base F.out (by have := HB.out.size; have := B14.out.size; omega), hfin⟩
end Go.Proofs.Ytmkljmljbbijeaa

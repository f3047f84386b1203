/- The walk of flumelaw6's FrameHeads. -/
import Derived.Test.YtfadpjljokpenaaFrameLaw
import Derived.Test.YtfadpjljokpenaaBackBut
namespace Go.Proofs.Ytfadpjljokpenaa
open Go.RowKit

theorem wH_cases (num base : Int) (seed : BitVec 32) (hk : HeadOk ⟨num, base, seed⟩) : (∃ x y : BitVec 64, num = bv x ∧ base = bv y ∧ (1 ≤ x.toNat ∧ x.toNat ≤ 9223372036854775807) ∧ (1 ≤ y.toNat ∧ y.toNat ≤ 9223372036854775807) ∧ wH ⟨num, base, seed⟩ = (headH x y seed, Crc.sum (bareH x y seed), 0)) ∨ wH ⟨num, base, seed⟩ = ([], 0#32, 1) := by
  obtain ⟨k1, k2⟩ := hk
  dsimp only at k1 k2
  unfold wH
  dsimp only
  by_cases h1 : num < 1 ∨ base < 1
  · rw [if_pos h1]; exact .inr rfl
  · rw [if_neg h1]
    have e := lsn_bv (lsn := num) (by omega) (by omega)
    have e' := lsn_bv (lsn := base) (by omega) (by omega)
    have hx : ((BitVec.ofInt 64 num).toNat : Int) = num := e
    have hy : ((BitVec.ofInt 64 base).toNat : Int) = base := e'
    exact .inl ⟨BitVec.ofInt 64 num, BitVec.ofInt 64 base, e.symm, e'.symm, by omega, by omega, rfl⟩
theorem rH_nil : rH [] = Hd.bad 2 := by unfold rH; rw [if_pos (by decide)]
theorem rH_head (x y : BitVec 64) (seed : BitVec 32) (hx : 1 ≤ x.toNat ∧ x.toNat ≤ 9223372036854775807) (hy : 1 ≤ y.toNat ∧ y.toNat ≤ 9223372036854775807) : rH (headH x y seed) = ⟨x, y, seed, Crc.sum (bareH x y seed), 0⟩ := by
  have h := rH_front x y seed [] hx hy
  rwa [List.append_nil] at h
theorem ref_write_head_x (num base : Int) (seed : BitVec 32) (w : World) (hk : HeadOk ⟨num, base, seed⟩) (bytes : List (BitVec 8)) (sum : BitVec 32) (err : Nat) (he : wH ⟨num, base, seed⟩ = (bytes, sum, err)) :
    Calls Try.prog 29 #[.agg #[.int .i64 num, .int .i64 base, .int .u32 (bv seed)]] w (WriteB w bytes sum err) :=
  ref_write_head ⟨num, base, seed⟩ hk w bytes sum err he
theorem ref_read_head_x (ao : Option Addr) (bs : List (BitVec 8)) (n cap : Nat) (w : World) (hb : BytesAt w ao bs) (hl : bs.length = n) (hc : n ≤ cap) (hm : cap ≤ 9223372036854775807) (r : Hd) (h : rH bs = r) :
    Calls Try.prog 31 #[.slice ao n cap] w (ReadHeadB w r) := by
  subst hl h; exact ref_read_head ao bs cap w hb hc hm

set_option maxHeartbeats 4000000 in
set_option maxRecDepth 100000 in
theorem frame_heads (a : Option Addr) (L : List HeadV) (ca : Nat) (s : Option Addr) (B : List (List (BitVec 8))) (cs : Nat) (w : World) (hL : HeadsAt w a L) (hB : ListsAt w s B) (lL : L.length ≤ 5864062014806) (lB : B.length ≤ 5864062014806) :
    Calls Try.prog 6 #[.slice a L.length ca, .slice s B.length cs] w (TrueBelow w) := by
  have HL := Lib.hid hL
  have HB := Lib.hid hB
  clear hL hB
  go_enter Try.func6, Try.ntmps6
  go_wp2_with fail
  refine (frame_begun _).mono ?_
  rintro e w1 ⟨rfl, hb⟩
  have H1 := Lib.hid hb
  clear hb
  go_wp2_with fail
  go_loopw [5, 6, 7, 8, 9, 10, 11, 12, 13, 14] (fun i _ _ _ _ _ _ _ _ _ wr => ∃ k : Nat, k ≤ L.length ∧ i = .int .i64 k ∧ Below w.heap.size w wr) (fun i _ _ _ _ _ _ _ _ _ _ => L.length - (intOf i).toNat)
  case atStart => exact ⟨0, by omega, rfl, H1.out⟩
  case round =>
    obtain ⟨k, hk, rfl, hb⟩ := hrel
    have HK := Lib.hid hb
    clear hb
    by_cases hlt : k < L.length
    · obtain ⟨hok, b, off, rfl, h0, h1, h2⟩ := (HL.out.below HK.out) k hlt
      obtain ⟨⟨num, base, seed⟩, hhd⟩ : ∃ hd, nthH L k = hd := ⟨_, rfl⟩
      rw [hhd] at hok h0 h1 h2
      dsimp only at h0 h1 h2
      have HOK := Lib.hid hok
      clear hhd hok
      rcases wH_cases num base seed HOK.out with ⟨x, y, rfl, rfl, hx, hy, hW⟩ | hW
      · have HW := Lib.hid hW
        have RH := Lib.hid (rH_head x y seed hx hy)
        have LH := Lib.hid (headH_len x y seed)
        have RX := Lib.hid HOK.out.1
        have RY := Lib.hid HOK.out.2
        clear hW hx hy
        go_wp2_with fail
        refine (write_head_x (bv x) (bv y) _ seed _ rfl RX.out RY.out _ _ _ HW.out).mono ?_
        rintro e w2 ⟨v2, rfl, hO, hb⟩
        have O2 := Lib.hid hO
        have B2 := Lib.hid (below_trans HK.out hb)
        have c0 := cell_keep hb h0
        have c1 := cell_keep hb h1
        have c2 := cell_keep hb h2
        clear hO hb h0 h1 h2
        go_wp2_with fail
        refine (ref_write_head_x (bv x) (bv y) seed _ HOK.out _ _ _ HW.out).mono ?_
        rintro e w3 ⟨v3, rfl, hO, hb⟩
        obtain ⟨a3, d3, rfl, x3, -, -, -, -⟩ := hO.slice
        obtain ⟨a2, d2, rfl, x2, -, l2, m2, -⟩ := (O2.out.keep hb).slice
        have X3 := Lib.hid x3
        have X2 := Lib.hid x2
        have M2 := Lib.hid (show (headH x y seed).length ≤ d2 ∧ d2 ≤ 9223372036854775807 from ⟨l2, m2⟩)
        have B3 := Lib.hid (below_trans B2.out hb)
        have h0 := cell_keep hb c0
        have h1 := cell_keep hb c1
        have h2 := cell_keep hb c2
        clear hO hb c0 c1 c2 x3 x2 O2 l2 m2
        go_wp2_with fail
        refine (eq_bytes_of a2 a3 _ _ _ _ d2 d3 true _ X2.out X3.out rfl rfl (by rw [LH.out]; omega) (decide_eq_true rfl)).mono ?_
        rintro e w4 ⟨rfl, n4, hw4⟩
        have b4 : Below w3.heap.size w3 w4 := by rw [hw4]; exact below_drewN _ _
        have B4 := Lib.hid (below_trans B3.out b4)
        have X4 := Lib.hid (X2.out.below b4)
        have c0 := cell_keep b4 h0
        have c1 := cell_keep b4 h1
        have c2 := cell_keep b4 h2
        clear b4 hw4 h0 h1 h2 X2 X3
        go_wp2_with fail
        refine (read_head_x a2 _ _ d2 _ X4.out rfl M2.out.1 M2.out.2 _ RH.out).mono ?_
        rintro e w5 ⟨rfl, hb⟩
        have b5 := below_trans hb (below_alloc w5 (.cells #[.int .i64 (bv x), .int .i64 (bv y), .int .u32 (bv seed)] 50))
        have H5 := Lib.hid (headBox_new w5 (bv x) (bv y) seed)
        have B5 := Lib.hid (below_trans B4.out b5)
        have h0 := cell_keep b5 c0
        have h1 := cell_keep b5 c1
        have h2 := cell_keep b5 c2
        have g0 := H5.out.c0
        have g1 := H5.out.c1
        have g2 := H5.out.c2
        clear b5 hb c0 c1 c2 X4 M2
        dsimp only
        go_wp2_with fail
        go_quiet (fail)
        have H6 := Lib.hid (below_trans B5.out (below_drewN _ nq))
        clear h0 h1 h2 g0 g1 g2
        go_wp2_with fail
        go_roundw
        case rel => exact ⟨k + 1, by omega, by go_num, H6.out⟩
        case measure => simp [intOf]; omega
      · have HW := Lib.hid hW
        have RX := Lib.hid HOK.out.1
        have RY := Lib.hid HOK.out.2
        clear hW
        go_wp2_with fail
        refine (write_head_x num base _ seed _ rfl RX.out RY.out _ _ _ HW.out).mono ?_
        rintro e w2 ⟨v2, rfl, hO, hb⟩
        have O2 := Lib.hid hO
        have B2 := Lib.hid (below_trans HK.out hb)
        have c0 := cell_keep hb h0
        have c1 := cell_keep hb h1
        have c2 := cell_keep hb h2
        clear hO hb h0 h1 h2
        go_wp2_with fail
        refine (ref_write_head_x num base seed _ HOK.out _ _ _ HW.out).mono ?_
        rintro e w3 ⟨v3, rfl, hO, hb⟩
        obtain ⟨a3, d3, rfl, x3, -, -, -, -⟩ := hO.slice
        obtain ⟨a2, d2, rfl, x2, -, l2, m2, -⟩ := (O2.out.keep hb).slice
        have X3 := Lib.hid x3
        have X2 := Lib.hid x2
        have M2 := Lib.hid (show ([] : List (BitVec 8)).length ≤ d2 ∧ d2 ≤ 9223372036854775807 from ⟨l2, m2⟩)
        have B3 := Lib.hid (below_trans B2.out hb)
        have h0 := cell_keep hb c0
        have h1 := cell_keep hb c1
        have h2 := cell_keep hb c2
        clear hO hb c0 c1 c2 x3 x2 O2 l2 m2
        go_wp2_with fail
        refine (eq_bytes_of a2 a3 [] [] _ _ d2 d3 true _ X2.out X3.out rfl rfl (by simp) (decide_eq_true rfl)).mono ?_
        rintro e w4 ⟨rfl, n4, hw4⟩
        have b4 : Below w3.heap.size w3 w4 := by rw [hw4]; exact below_drewN _ _
        have B4 := Lib.hid (below_trans B3.out b4)
        have X4 := Lib.hid (X2.out.below b4)
        have c0 := cell_keep b4 h0
        have c1 := cell_keep b4 h1
        have c2 := cell_keep b4 h2
        clear b4 hw4 h0 h1 h2 X2 X3
        go_wp2_with fail
        refine (read_head_x a2 [] _ d2 _ X4.out rfl M2.out.1 M2.out.2 _ rH_nil).mono ?_
        rintro e w5 ⟨he, hb⟩
        obtain rfl : e = .returned (.tuple #[.agg #[.int .i64 0, .int .i64 0, .int .u32 0], .int .u32 0, .int .i64 2]) := he
        have b5 := below_trans hb (below_alloc w5 (.cells #[.int .i64 0, .int .i64 0, .int .u32 0] 50))
        have H5 := Lib.hid (headBox_new w5 0 0 0#32)
        have B5 := Lib.hid (below_trans B4.out b5)
        have h0 := cell_keep b5 c0
        have h1 := cell_keep b5 c1
        have h2 := cell_keep b5 c2
        clear b5 hb c0 c1 c2 X4 M2
        go_wp2_with fail
        go_quiet (fail)
        have H6 := Lib.hid (below_trans B5.out (below_drewN _ nq))
        clear h0 h1 h2
        go_wp2_with fail
        go_roundw
        case rel => exact ⟨k + 1, by omega, by go_num, H6.out⟩
        case measure => simp [intOf]; omega
    · have hge : (L.length : Int) ≤ (k : Int) := by omega
      obtain rfl : k = L.length := by omega
      go_wp2_with fail
      obtain ⟨wo, rfl⟩ : ∃ wo : World, wo = wr := ⟨_, rfl⟩
      go_loopw [15, 16, 17, 18, 19, 20, 21, 22] (fun i _ _ _ _ _ _ _ wr => ∃ k : Nat, k ≤ B.length ∧ i = .int .i64 k ∧ Below w.heap.size w wr) (fun i _ _ _ _ _ _ _ _ => B.length - (intOf i).toNat)
      case atStart => exact ⟨0, by omega, rfl, HK.out⟩
      case round =>
        clear HK
        obtain ⟨k, hk, rfl, hb⟩ := hrel
        have HK := Lib.hid hb
        clear hb
        by_cases hlt : k < B.length
        · obtain ⟨b, off, ai, ci, rfl, hc, hbs, hnil, hle, hci⟩ := (HB.out.below HK.out) k hlt
          have HBS := Lib.hid hbs
          have HNil := Lib.hid hnil
          have HBK : Hid (b < wr.heap.size) := block_lt_of_cell hc
          obtain ⟨r, hr⟩ : ∃ r, rH (nth B k) = r := ⟨_, rfl⟩
          have HR := Lib.hid hr
          clear hbs hnil hr
          go_wp2_with fail
          refine (lent ai (nth B k) ci _ HBS.out HNil.out (by omega)).mono ?_
          rintro e w2 ⟨g, cap, rfl, hc2, hcm, hM⟩
          have HM := Lib.hid hM
          have HC2 := Lib.hid hc2
          have HCM := Lib.hid hcm
          have c2 := cell_keep hM.below hc
          clear hM hcm hc hc2
          go_wp2_with fail
          refine (read_head_x (some ⟨g, 0, none⟩) (nth B k) _ cap _ HM.out.front rfl (by have := HC2.out; omega) (by have := HCM.out; unfold maxLen at this; omega) r HR.out).mono ?_
          rintro e w3 ⟨rfl, hb⟩
          have b3 := below_trans hb (below_alloc w3 (.cells #[.int .i64 (bv r.num), .int .i64 (bv r.base), .int .u32 (bv r.seed)] 50))
          have H3 := Lib.hid (headBox_new w3 (bv r.num) (bv r.base) r.seed)
          have M3 := Lib.hid (HM.out.on b3)
          have c3 := cell_keep b3 c2
          clear hb b3 c2 HM
          go_wp2_with fail
          refine (ref_read_head_x ai (nth B k) _ ci _ (HBS.out.below M3.out.below) rfl (by omega) (by omega) r HR.out).mono ?_
          rintro e w4 ⟨rfl, hb⟩
          have b4 := below_trans hb (below_alloc w4 (.cells #[.int .i64 (bv r.num), .int .i64 (bv r.base), .int .u32 (bv r.seed)] 50))
          have H4 := Lib.hid (headBox_new w4 (bv r.num) (bv r.base) r.seed)
          have G4 := Lib.hid (H3.out.on b4)
          have M4 := Lib.hid (M3.out.on b4)
          have c4 := cell_keep b4 c3
          have g0 := G4.out.c0
          have g1 := G4.out.c1
          have g2 := G4.out.c2
          have d0 := H4.out.c0
          have d1 := H4.out.c1
          have d2 := H4.out.c2
          clear hb b4 c3 M3 H3
          go_wp2_with fail
          refine (back_but wr g cap ai (nth B k) ci _ M4.out HC2.out HCM.out (fun w' hw' => HBS.out.but M4.out.below hw' M4.out.own)).mono ?_
          rintro e w6 ⟨rfl, hb6⟩
          have B6 : Hid (Below w.heap.size w w6) := hb6.below (below_trans HK.out M4.out.below) (by have := M4.out.own; have := HK.out.size; omega) (by have := M4.out.below.size; have := HK.out.size; omega)
          clear hb6 M4 c4 g0 g1 g2 d0 d1 d2
          go_wp2_with fail
          go_roundw
          case rel => exact ⟨k + 1, by omega, by go_num, B6.out⟩
          case measure => simp [intOf]; omega
        · have hge : (B.length : Int) ≤ (k : Int) := by omega
          go_wp2_with fail
          go_ret
          exact ⟨rfl, HK.out⟩
end Go.Proofs.Ytfadpjljokpenaa

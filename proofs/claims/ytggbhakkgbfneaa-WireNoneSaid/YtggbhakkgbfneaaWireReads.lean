/- The walk of flumelaw1's WireReads. -/
import Derived.Test.YtggbhakkgbfneaaWireBegun
import Derived.Test.YtggbhakkgbfneaaRefString
import Derived.Test.YtggbhakkgbfneaaBackBut
import Derived.Test.YtggbhakkgbfneaaOpenLists
import Derived.Test.YtggbhakkgbfneaaOpenInts
namespace Go.Proofs.Ytggbhakkgbfneaa
open Go.RowKit

theorem Mine.front {w wr : World} {g : Nat} {bs x : List (BitVec 8)} (h : Mine w wr g (bs ++ x)) : BytesAt wr (some ⟨g, 0, none⟩) bs := fun i hi => by
  refine ⟨g, 0, rfl, ?_⟩
  rw [Nat.zero_add, h.bytes i (by simp; omega), at8_left hi]
theorem ref_read_string_to (ao : Option Addr) (bs : List (BitVec 8)) (n cap : Nat) (most : Int) (w : World) (r : List (BitVec 8) × Nat × Nat) (hb : BytesAt w ao bs) (hl : bs.length = n) (hc : n ≤ cap) (hn : ao = none → cap = 0) (hm : cap ≤ 9223372036854775807) (hlen : n ≤ 140737488355328) (hmost : -9223372036854775808 ≤ most ∧ most ≤ 9223372036854775807) (hr : rs bs most = r) :
    Calls Try.prog 16 #[.slice ao n cap, .int .i64 most] w (RsOut w r) := by
  subst hl hr; exact ref_read_string ao bs cap most w hb hc hn hm hlen hmost
theorem rs_len (bs : List (BitVec 8)) (most : Int) (h : bs.length ≤ 140737488355328) : (rs bs most).1.length ≤ 140737488355328 := by
  unfold rs
  split
  · simp
  split
  · simp
  split
  · simp
  split
  · simp
  · simp; omega

theorem BytesAt.but {w0 w w' : World} {g : Nat} {ao : Option Addr} {bs : List (BitVec 8)} (h : BytesAt w0 ao bs) (hb : Below w0.heap.size w0 w) (hu : But g w w') (hg : w0.heap.size ≤ g) : BytesAt w' ao bs := fun i hi => by
  obtain ⟨b, off, e, hc⟩ := h i hi
  have hl := block_lt_of_cell hc
  exact ⟨b, off, e, hu.cell (cell_keep hb hc) (by simp only at hl ⊢; omega)⟩

set_option maxHeartbeats 2000000 in
set_option maxRecDepth 100000 in
theorem wire_reads (a : Option Addr) (L : List (List (BitVec 8))) (ca : Nat) (m : Option Addr) (M : List Int) (cm : Nat) (w : World)
    (hL : ListsAt w a L) (hM : IntsAt w m M) (lL : L.length ≤ 5864062014806) :
    Calls Try.prog 3 #[.slice a L.length ca, .slice m M.length cm] w (TrueBelow w) := by
  have HL := Lib.hid hL
  have HMs := Lib.hid hM
  clear hL hM
  go_enter Try.func3, Try.ntmps3
  go_wp2_with fail
  refine (wire_begun _).mono ?_
  rintro e w1 ⟨rfl, hb⟩
  have H1 := Lib.hid hb
  clear hb
  go_wp2_with fail
  go_loopw [5] (fun i wr => ∃ k : Nat, k ≤ L.length ∧ i = .int .i64 k ∧ Below w.heap.size w wr) (fun i _ => L.length - (intOf i).toNat)
  case atStart => exact ⟨0, by omega, rfl, H1.out⟩
  case round =>
    obtain ⟨k, hk, rfl, hb⟩ := hrel
    have HK := Lib.hid hb
    clear hb
    by_cases hlt : k < L.length
    · obtain ⟨b, off, ai, ci, rfl, hc, hbs, hnil, hle, hci⟩ := (HL.out.below HK.out) k hlt
      have HB := Lib.hid hbs
      have HNil := Lib.hid hnil
      have HLe := Lib.hid hle
      obtain ⟨n, j, e, hr⟩ : ∃ n j e, rv (nth L k) = (n, j, e) := ⟨_, _, _, rfl⟩
      have HV : Hid (rvVal (rv (nth L k)) = .tuple #[.int .u64 (bv n), .int .i64 j, .int .i64 e]) := by rw [hr]; rfl
      clear hbs hnil hr
      go_wp2_with fail
      refine (lent ai (nth L k) ci _ HB.out HNil.out (by omega)).mono ?_
      rintro x w2 ⟨g, cap, rfl, hc2, hcm, hM⟩
      have HM := Lib.hid hM
      have HC2 := Lib.hid hc2
      have HCM := Lib.hid hcm
      have HCX : Hid (cap ≤ 9223372036854775807) := by unfold maxLen at hcm; exact hcm
      have hc2' := cell_keep HM.out.below hc
      clear hM hcm hc
      go_wp2_with fail
      refine (read_varint_to (some ⟨g, 0, none⟩) (nth L k) _ cap _ _ HM.out.front rfl HV.out).mono ?_
      rintro x w' ⟨rfl, rfl⟩
      go_wp2_with fail
      refine (ref_read_varint_to ai (nth L k) _ ci _ _ (HB.out.below HM.out.below) rfl HV.out).mono ?_
      rintro x w' ⟨rfl, rfl⟩
      by_cases hkm : k < M.length
      · obtain ⟨hr, bM, oM, rfl, hcM⟩ := (HMs.out.below (below_trans HK.out HM.out.below)) k hkm
        have HMO := Lib.hid hr
        clear hr
        go_wp2_with fail
        refine (read_string_to (some ⟨g, 0, none⟩) (nth L k) _ cap _ _ _ HM.out.front rfl (by omega) (fun h => by cases h) HCX.out (by omega) HMO.out rfl).mono ?_
        rintro x w3 ⟨v1, rfl, hO1, hb3⟩
        have B3 := Lib.hid hb3
        have O1 := Lib.hid hO1
        clear hO1 hb3 hcM
        have hc3 := cell_keep B3.out hc2'
        go_wp2_with fail
        refine (ref_read_string_to ai (nth L k) _ ci _ _ _ ((HB.out.below HM.out.below).below B3.out) rfl HLe.out HNil.out (by omega) (by omega) HMO.out rfl).mono ?_
        rintro x w4 ⟨v2, rfl, hO2, hb4⟩
        obtain ⟨s1, d1, rfl, hd1, -, -, -, hg1⟩ := (O1.out.keep hb4).slice
        obtain ⟨s2, d2, rfl, hd2, -, -, -, hg2⟩ := hO2.slice
        have B4 := Lib.hid hb4
        have D1 := Lib.hid hd1
        have D2 := Lib.hid hd2
        have G1 := Lib.hid hg1
        have G2 := Lib.hid hg2
        have hc4 := cell_keep B4.out hc3
        have HLn := Lib.hid (rs_len (nth L k) (atI M k) (by omega))
        clear hO2 hb4 hd1 hd2 hg1 hg2 O1 hc3 hc2'
        go_wp2_with fail
        refine (eq_bytes_of s1 s2 _ _ _ _ d1 d2 true _ D1.out D2.out rfl rfl HLn.out (decide_eq_true rfl)).mono ?_
        rintro x w5 ⟨rfl, n5, hw5⟩
        have B5 := Lib.hid (show Below w4.heap.size w4 w5 by rw [hw5]; exact below_drewN _ _)
        have hc5 := cell_keep B5.out hc4
        have M5 := Lib.hid (((HM.out.on B3.out).on B4.out).on B5.out)
        have GL : Hid (g < w2.heap.size) := block_lt_of_cell (HM.out.bytes 0 (by simp))
        clear hw5 hc4
        go_wp2_with fail
        refine (back_but wr g cap ai (nth L k) ci _ M5.out HC2.out HCM.out (fun w' hw' => HB.out.but M5.out.below hw' M5.out.own)).mono ?_
        rintro x w6 ⟨rfl, hb6⟩
        have E1 : Hid (BytesAt w6 s1 (rs (nth L k) (atI M k)).1) := hb6.bytes (D1.out.below B5.out) (fun g' off e h => by have := (G1.out g' off e).1; have := GL.out; omega)
        have E2 : Hid (BytesAt w6 s2 (rs (nth L k) (atI M k)).1) := hb6.bytes (D2.out.below B5.out) (fun g' off e h => by have := (G2.out g' off e).1; have := GL.out; have := B3.out.size; omega)
        have B6 : Hid (Below w.heap.size w w6) := hb6.below (below_trans HK.out M5.out.below) (by have := M5.out.own; have := HK.out.size; omega) (by have := M5.out.below.size; have := HK.out.size; omega)
        clear hb6 D1 D2 G1 G2 M5 hc5
        go_wp2_with fail
        refine (eq_bytes_of s1 s2 _ _ _ _ d1 d2 true _ E1.out E2.out rfl rfl HLn.out (decide_eq_true rfl)).mono ?_
        rintro x w7 ⟨rfl, n7, hw7⟩
        have B7 : Hid (Below w.heap.size w w7) := below_trans B6.out (by rw [hw7]; exact below_drewN _ _)
        clear hw7
        go_wp2_with fail
        go_roundw
        case rel => exact ⟨k + 1, by omega, by go_num, B7.out⟩
        case measure => simp [intOf]; omega
      · have HMO : Hid (-9223372036854775808 ≤ (1048576 : Int) ∧ (1048576 : Int) ≤ 9223372036854775807) := ⟨by omega, by omega⟩
        go_wp2_with fail
        refine (read_string_to (some ⟨g, 0, none⟩) (nth L k) _ cap _ _ _ HM.out.front rfl (by omega) (fun h => by cases h) HCX.out (by omega) HMO.out rfl).mono ?_
        rintro x w3 ⟨v1, rfl, hO1, hb3⟩
        have B3 := Lib.hid hb3
        have O1 := Lib.hid hO1
        clear hO1 hb3
        have hc3 := cell_keep B3.out hc2'
        go_wp2_with fail
        refine (ref_read_string_to ai (nth L k) _ ci _ _ _ ((HB.out.below HM.out.below).below B3.out) rfl HLe.out HNil.out (by omega) (by omega) HMO.out rfl).mono ?_
        rintro x w4 ⟨v2, rfl, hO2, hb4⟩
        obtain ⟨s1, d1, rfl, hd1, -, -, -, hg1⟩ := (O1.out.keep hb4).slice
        obtain ⟨s2, d2, rfl, hd2, -, -, -, hg2⟩ := hO2.slice
        have B4 := Lib.hid hb4
        have D1 := Lib.hid hd1
        have D2 := Lib.hid hd2
        have G1 := Lib.hid hg1
        have G2 := Lib.hid hg2
        have hc4 := cell_keep B4.out hc3
        have HLn := Lib.hid (rs_len (nth L k) 1048576 (by omega))
        clear hO2 hb4 hd1 hd2 hg1 hg2 O1 hc3 hc2'
        go_wp2_with fail
        refine (eq_bytes_of s1 s2 _ _ _ _ d1 d2 true _ D1.out D2.out rfl rfl HLn.out (decide_eq_true rfl)).mono ?_
        rintro x w5 ⟨rfl, n5, hw5⟩
        have B5 := Lib.hid (show Below w4.heap.size w4 w5 by rw [hw5]; exact below_drewN _ _)
        have hc5 := cell_keep B5.out hc4
        have M5 := Lib.hid (((HM.out.on B3.out).on B4.out).on B5.out)
        have GL : Hid (g < w2.heap.size) := block_lt_of_cell (HM.out.bytes 0 (by simp))
        clear hw5 hc4
        go_wp2_with fail
        refine (back_but wr g cap ai (nth L k) ci _ M5.out HC2.out HCM.out (fun w' hw' => HB.out.but M5.out.below hw' M5.out.own)).mono ?_
        rintro x w6 ⟨rfl, hb6⟩
        have E1 : Hid (BytesAt w6 s1 (rs (nth L k) 1048576).1) := hb6.bytes (D1.out.below B5.out) (fun g' off e h => by have := (G1.out g' off e).1; have := GL.out; omega)
        have E2 : Hid (BytesAt w6 s2 (rs (nth L k) 1048576).1) := hb6.bytes (D2.out.below B5.out) (fun g' off e h => by have := (G2.out g' off e).1; have := GL.out; have := B3.out.size; omega)
        have B6 : Hid (Below w.heap.size w w6) := hb6.below (below_trans HK.out M5.out.below) (by have := M5.out.own; have := HK.out.size; omega) (by have := M5.out.below.size; have := HK.out.size; omega)
        clear hb6 D1 D2 G1 G2 M5 hc5
        go_wp2_with fail
        refine (eq_bytes_of s1 s2 _ _ _ _ d1 d2 true _ E1.out E2.out rfl rfl HLn.out (decide_eq_true rfl)).mono ?_
        rintro x w7 ⟨rfl, n7, hw7⟩
        have B7 : Hid (Below w.heap.size w w7) := below_trans B6.out (by rw [hw7]; exact below_drewN _ _)
        clear hw7
        go_wp2_with fail
        go_roundw
        case rel => exact ⟨k + 1, by omega, by go_num, B7.out⟩
        case measure => simp [intOf]; omega
    · have hge : (L.length : Int) ≤ (k : Int) := by omega
      go_wp2_with fail
      go_ret
      exact ⟨rfl, HK.out⟩
end Go.Proofs.Ytggbhakkgbfneaa

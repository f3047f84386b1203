/- The walk of flumelaw2's CrcJoins. -/
import Derived.Test.YtddepgacfeppfaaDoorCrcBegun
import Derived.Test.YtddepgacfeppfaaDoorFrame
namespace Go.Proofs.YtddepgacfeppfaaDoor
open Go.RowKit

theorem joins_left (A B C : List (BitVec 8)) : Crc.join (Crc.join (Crc.sum A) (Crc.sum B) B.length) (Crc.sum C) C.length = Crc.sum (A ++ B ++ C) := by
  rw [← Crc.sum_append, ← Crc.sum_append]
theorem joins_right (A B C : List (BitVec 8)) : Crc.join (Crc.sum A) (Crc.join (Crc.sum B) (Crc.sum C) C.length) (B.length + C.length) = Crc.sum (A ++ B ++ C) := by
  rw [← Crc.join_join, joins_left]
theorem joins_more (A B C : List (BitVec 8)) : Crc.more (Crc.more (Crc.sum A) B) C = Crc.sum (A ++ B ++ C) := by
  unfold Crc.sum; rw [Crc.more_append, Crc.more_append, List.append_assoc]

set_option maxRecDepth 100000 in
theorem joins_short (a b c : Option Addr) (A B C : List (BitVec 8)) (ca cb cc : Nat) (w : World) (hD : DeB w) (hA : BytesAt w a A) (hB : BytesAt w b B) (hC : BytesAt w c C)
    (na : a = none → ca = 0) (nb : b = none → cb = 0) (nc : c = none → cc = 0) (lA : A.length ≤ 10000) (lB : B.length ≤ 10000) (lC : C.length ≤ 10000) :
    Calls Tryd.prog 3 #[.slice a A.length ca, .slice b B.length cb, .slice c C.length cc] w (TrueBelow w) := by
  have HD := Lib.hid hD
  have HA := Lib.hid hA
  have HB := Lib.hid hB
  have HC := Lib.hid hC
  have NA := Lib.hid na
  have NB := Lib.hid nb
  have NC := Lib.hid nc
  clear hD hA hB hC na nb nc
  go_enter Tryd.func3, Tryd.ntmps3
  go_wp2_with fail
  refine (crc_begun _ HD.out).mono ?_
  rintro e w1 ⟨rfl, hb⟩
  have H1 := Lib.hid hb
  clear hb
  go_wp2_with (refine wpList_append_bytes (o := ⟨some 27, _, _, _, _, _⟩) rfl _ _ rfl w1.heap.size _ [] rfl (OwnB.nil _ _) a A.length ca A rfl rfl (HA.out.below H1.out) NA.out (by simp; omega) (Nat.le_refl _) ?_)
  intro v2 w2 hv2 hg2 hi2
  clear hi2
  have H2 : Hid (Below w1.heap.size w1 w2) := (OwnB.nil w1 w1.heap.size).below hg2 (Nat.le_refl _) (Nat.le_refl _)
  have V2 := Lib.hid hv2
  clear hv2 hg2
  go_wp2_with (refine wpList_append_bytes (o := ⟨some 29, _, _, _, _, _⟩) rfl _ _ rfl w1.heap.size _ A rfl V2.out b B.length cb B rfl rfl ((HB.out.below H1.out).below H2.out) NB.out (by omega) H2.out.size ?_)
  intro v3 w3 hv3 hg3 hi3
  clear hi3
  have H3 : Hid (Below w1.heap.size w2 w3) := V2.out.below hg3 (Nat.le_refl _) H2.out.size
  have V3 := Lib.hid hv3
  clear hv3 hg3
  have HC3 := Lib.hid ((HC.out.below H1.out).below (H2.out.trans H3.out))
  have L3 := Lib.hid (Nat.le_trans H2.out.size H3.out.size)
  go_wp2_with (refine wpList_append_bytes (o := ⟨some 31, _, _, _, _, _⟩) rfl _ _ rfl w1.heap.size _ (A ++ B) rfl V3.out c C.length cc C rfl rfl HC3.out NC.out (by simp; omega) L3.out ?_)
  intro v4 w4 hv4 hg4 hi4
  clear hi4
  have H4 : Hid (Below w.heap.size w w4) := below_trans H1.out ((H2.out.trans H3.out).trans (V3.out.below hg4 (Nat.le_refl _) L3.out))
  obtain ⟨all, hall⟩ : ∃ all, all = A ++ B ++ C := ⟨_, rfl⟩
  have hv5 : OwnB w4 w1.heap.size v4 all := by rw [hall, List.append_assoc]; exact hv4
  have hlen : all.length ≤ 30000 := by rw [hall]; simp; omega
  have t1 : (Crc.sum all == Crc.join (Crc.join (Crc.sum A) (Crc.sum B) B.length) (Crc.sum C) C.length) = true := by rw [joins_left, hall]; simp
  have t2 : (Crc.sum all == Crc.join (Crc.sum A) (Crc.join (Crc.sum B) (Crc.sum C) C.length) (B.length + C.length)) = true := by rw [joins_right, hall]; simp
  have t3 : (Crc.sum all == Crc.more (Crc.more (Crc.sum A) B) C) = true := by rw [joins_more, hall]; simp
  have t4 : (Crc.more 0#32 all == Crc.sum all) = true := by rw [Crc.more_sum]; simp
  clear hall
  obtain ⟨ao, cap, hv, -, -, -, hbs, -⟩ := hv5.shape
  rw [hv]
  have HV := Lib.hid hbs
  clear hv hbs hv4 hv5 hg4 H2 H3 HC3 L3 V2 V3
  have K4 : Hid (Below w4.heap.size w4 w4) := Below.refl _ _
  go_wp2_with fail
  refine (crc_sum ao all cap _ (HV.out.below K4.out) (by omega)).mono ?_
  rintro e w5 ⟨rfl, hb⟩
  have H5 := Lib.hid (below_trans H4.out hb)
  have K5 := Lib.hid (below_trans K4.out hb)
  clear hb H4 K4
  go_wp2_with fail
  refine (crc_sum a A ca _ (HA.out.below H5.out) (by omega)).mono ?_
  rintro e w6 ⟨rfl, hb⟩
  have H6 := Lib.hid (below_trans H5.out hb)
  have K6 := Lib.hid (below_trans K5.out hb)
  clear hb H5 K5
  go_wp2_with fail
  refine (crc_sum b B cb _ (HB.out.below H6.out) (by omega)).mono ?_
  rintro e w7 ⟨rfl, hb⟩
  have H7 := Lib.hid (below_trans H6.out hb)
  have K7 := Lib.hid (below_trans K6.out hb)
  clear hb H6 K6
  go_wp2_with fail
  refine (crc_join (Crc.sum A) (Crc.sum B) B.length _ (by omega) (HD.out.below H7.out)).mono ?_
  rintro e w8 ⟨rfl, hb⟩
  have H8 := Lib.hid (below_trans H7.out hb)
  have K8 := Lib.hid (below_trans K7.out hb)
  clear hb H7 K7
  go_wp2_with fail
  refine (crc_sum c C cc _ (HC.out.below H8.out) (by omega)).mono ?_
  rintro e w9 ⟨rfl, hb⟩
  have H9 := Lib.hid (below_trans H8.out hb)
  have K9 := Lib.hid (below_trans K8.out hb)
  clear hb H8 K8
  go_wp2_with fail
  refine (crc_join (Crc.join (Crc.sum A) (Crc.sum B) B.length) (Crc.sum C) C.length _ (by omega) (HD.out.below H9.out)).mono ?_
  rintro e w10 ⟨rfl, hb⟩
  have H10 := Lib.hid (below_trans H9.out hb)
  have K10 := Lib.hid (below_trans K9.out hb)
  clear hb H9 K9
  go_wp2_with fail
  refine (crc_sum a A ca _ (HA.out.below H10.out) (by omega)).mono ?_
  rintro e w11 ⟨rfl, hb⟩
  have H11 := Lib.hid (below_trans H10.out hb)
  have K11 := Lib.hid (below_trans K10.out hb)
  clear hb H10 K10
  go_wp2_with fail
  refine (crc_sum b B cb _ (HB.out.below H11.out) (by omega)).mono ?_
  rintro e w12 ⟨rfl, hb⟩
  have H12 := Lib.hid (below_trans H11.out hb)
  have K12 := Lib.hid (below_trans K11.out hb)
  clear hb H11 K11
  go_wp2_with fail
  refine (crc_sum c C cc _ (HC.out.below H12.out) (by omega)).mono ?_
  rintro e w13 ⟨rfl, hb⟩
  have H13 := Lib.hid (below_trans H12.out hb)
  have K13 := Lib.hid (below_trans K12.out hb)
  clear hb H12 K12
  go_wp2_with fail
  refine (crc_join (Crc.sum B) (Crc.sum C) C.length _ (by omega) (HD.out.below H13.out)).mono ?_
  rintro e w14 ⟨rfl, hb⟩
  have H14 := Lib.hid (below_trans H13.out hb)
  have K14 := Lib.hid (below_trans K13.out hb)
  clear hb H13 K13
  go_wp2_with fail
  rw [show (B.length : Int) + (C.length : Int) = ((B.length + C.length : Nat) : Int) from by omega]
  refine (crc_join (Crc.sum A) (Crc.join (Crc.sum B) (Crc.sum C) C.length) (B.length + C.length) _ (by omega) (HD.out.below H14.out)).mono ?_
  rintro e w15 ⟨rfl, hb⟩
  have H15 := Lib.hid (below_trans H14.out hb)
  have K15 := Lib.hid (below_trans K14.out hb)
  clear hb H14 K14
  go_wp2_with fail
  refine (crc_sum a A ca _ (HA.out.below H15.out) (by omega)).mono ?_
  rintro e w16 ⟨rfl, hb⟩
  have H16 := Lib.hid (below_trans H15.out hb)
  have K16 := Lib.hid (below_trans K15.out hb)
  clear hb H15 K15
  go_wp2_with fail
  refine (crc_more (Crc.sum A) b B cb _ (HB.out.below H16.out) (by omega)).mono ?_
  rintro e w17 ⟨rfl, hb⟩
  have H17 := Lib.hid (below_trans H16.out hb)
  have K17 := Lib.hid (below_trans K16.out hb)
  clear hb H16 K16
  go_wp2_with fail
  refine (crc_more (Crc.more (Crc.sum A) B) c C cc _ (HC.out.below H17.out) (by omega)).mono ?_
  rintro e w18 ⟨rfl, hb⟩
  have H18 := Lib.hid (below_trans H17.out hb)
  have K18 := Lib.hid (below_trans K17.out hb)
  clear hb H17 K17
  go_wp2_with fail
  refine (crc_more 0#32 ao all cap _ (HV.out.below K18.out) (by omega)).mono ?_
  rintro e w19 ⟨rfl, hb⟩
  have H19 := Lib.hid (below_trans H18.out hb)
  have K19 := Lib.hid (below_trans K18.out hb)
  clear hb H18 K18
  go_wp2_with fail
  go_ret
  exact ⟨rfl, H19.out⟩

theorem joins_long (a b c : Option Addr) (A B C : List (BitVec 8)) (ca cb cc : Nat) (w : World) (hD : DeB w) (h : 10000 < A.length ∨ 10000 < B.length ∨ 10000 < C.length) :
    Calls Tryd.prog 3 #[.slice a A.length ca, .slice b B.length cb, .slice c C.length cc] w (TrueBelow w) := by
  have HD := Lib.hid hD
  clear hD
  have hc : (10000 < A.length ∧ decide ((10000 : Int) < A.length) = true) ∨ (A.length ≤ 10000 ∧ 10000 < B.length) ∨ (A.length ≤ 10000 ∧ B.length ≤ 10000 ∧ 10000 < C.length) := by
    rcases h with h | h | h
    · exact .inl ⟨h, by simp; omega⟩
    · by_cases h1 : 10000 < A.length
      · exact .inl ⟨h1, by simp; omega⟩
      · exact .inr (.inl ⟨by omega, h⟩)
    · by_cases h1 : 10000 < A.length
      · exact .inl ⟨h1, by simp; omega⟩
      · by_cases h2 : 10000 < B.length
        · exact .inr (.inl ⟨by omega, h2⟩)
        · exact .inr (.inr ⟨by omega, by omega, h⟩)
  clear h
  rcases hc with ⟨h1, _⟩ | ⟨h1, h2⟩ | ⟨h1, h2, h3⟩
  all_goals
    go_enter Tryd.func3, Tryd.ntmps3
    go_wp2_with fail
    refine (crc_begun _ HD.out).mono ?_
    rintro e w1 ⟨rfl, hb⟩
    have H1 := Lib.hid hb
    clear hb
    go_wp2_with fail
    go_ret
    exact ⟨rfl, H1.out⟩
end Go.Proofs.YtddepgacfeppfaaDoor

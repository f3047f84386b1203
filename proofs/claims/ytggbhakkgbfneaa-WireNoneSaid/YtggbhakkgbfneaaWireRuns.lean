/- The walk of flumelaw1's WireRuns. -/
import Derived.Test.YtggbhakkgbfneaaPlainRuns
import Derived.Test.YtggbhakkgbfneaaWireStr
import Derived.Test.YtggbhakkgbfneaaWireBegun
import Derived.Test.YtggbhakkgbfneaaWireFixed
import Derived.Test.YtggbhakkgbfneaaMixed
namespace Go.Proofs.Ytggbhakkgbfneaa
open Go.RowKit

set_option maxRecDepth 100000 in
theorem reader_at (b : Nat) (bs : List (BitVec 8)) (k bad : Nat) (w : World) (hR : RdAt w b bs k bad) :
    Calls Try.prog 37 #[.pointer (some ⟨b, 0, none⟩)] w fun e w' => e = .returned (.int .i64 k) ∧ w = w' := by
  have h1 := hR.at1
  clear hR
  go_enter Try.func37, Try.ntmps37
  go_wp2_with fail
  go_ret
  exact ⟨rfl, rfl⟩
theorem reader_err_ok (b : Nat) (bs : List (BitVec 8)) (k : Nat) (w : World) (hR : RdAt w b bs k 0) :
    Calls Try.prog 35 #[.pointer (some ⟨b, 0, none⟩)] w fun e w' => e = .returned (.tuple #[.int .i64 0, .int .i64 0]) ∧ ∃ n, w' = w.drewN n :=
  reader_err b bs k 0 w hR
theorem reader_left_ok (b : Nat) (bs : List (BitVec 8)) (k : Nat) (w : World) (hR : RdAt w b bs k 0) (hm : bs.length ≤ 140737488355328) (hk : bs.length = k) :
    Calls Try.prog 38 #[.pointer (some ⟨b, 0, none⟩)] w fun e w' => e = .returned (.int .i64 0) ∧ ∃ n, w' = w.drewN n :=
  (reader_left b bs k 0 w hR hm).mono fun _ _ ⟨he, hw⟩ => ⟨by rw [he, hk, Nat.sub_self]; rfl, hw⟩
theorem signed_to (b : Nat) (bs : List (BitVec 8)) (k : Nat) (w : World) (hR : RdAt w b bs k 0) (hm : bs.length ≤ 140737488355328) (z : Int) (hz : -9223372036854775808 ≤ z ∧ z ≤ 9223372036854775807) (j : Nat) (hr : rv (bs.drop k) = (zigB z, j, 0)) :
    Calls Try.prog 40 #[.pointer (some ⟨b, 0, none⟩)] w fun x w' => x = .returned (.int .i64 z) ∧ Upd b 1 (.int .i64 (k + j : Nat)) w w' := by
  have h := signed_ok b bs k w hR hm (zigB z) j hr
  rw [bv_zigB hz, zag_zig] at h
  exact h
theorem fixed32_to (b : Nat) (bs : List (BitVec 8)) (k : Nat) (w : World) (hR : RdAt w b bs k 0) (hm : bs.length ≤ 140737488355328) (n : BitVec 32) (hs : k + 4 ≤ bs.length) (ht : (bs.drop k).take 4 = fixedL (n.setWidth 64) 4) :
    Calls Try.prog 41 #[.pointer (some ⟨b, 0, none⟩)] w fun x w' => x = .returned (.int .u32 (bv n)) ∧ Upd b 1 (.int .i64 (k + 4 : Nat)) w w' := by
  have h := fixed32_ok b bs k w hR hm hs
  rw [ht, leB_fixed32] at h
  exact h
theorem fixed64_to (b : Nat) (bs : List (BitVec 8)) (k : Nat) (w : World) (hR : RdAt w b bs k 0) (hm : bs.length ≤ 140737488355328) (n : BitVec 64) (hs : k + 8 ≤ bs.length) (ht : (bs.drop k).take 8 = fixedL n 8) :
    Calls Try.prog 42 #[.pointer (some ⟨b, 0, none⟩)] w fun x w' => x = .returned (.int .u64 (bv n)) ∧ Upd b 1 (.int .i64 (k + 8 : Nat)) w w' := by
  have h := fixed64_ok b bs k w hR hm hs
  rw [ht, leB_fixed64] at h
  exact h
theorem varint_full (b : Nat) (bs : List (BitVec 8)) (k : Nat) (w : World) (hR : RdAt w b bs k 0) (hm : bs.length ≤ 140737488355328) (n : BitVec 64) (j : Nat) (hr : rv (bs.drop k) = (n, j, 0)) :
    Calls Try.prog 39 #[.pointer (some ⟨b, 0, none⟩), .int .u64 18446744073709551615] w fun x w' => x = .returned (.int .u64 (bv n)) ∧ Upd b 1 (.int .i64 (k + j : Nat)) w w' :=
  varint_ok b bs k 18446744073709551615#64 w hR hm n j hr (bv_most n)
theorem wire_varint_to (x : Int) (n : BitVec 64) (w : World) (hx : x = bv n) :
    Calls Try.prog 19 #[.int .u64 x] w fun e w' => ∃ v, e = .returned v ∧ OwnB w' w.heap.size v (varint n) ∧ Below w.heap.size w w' := by
  subst hx; exact wire_varint n w
/-- The length as a number that is not written out: the walk then stands still at an append of it. -/
theorem wire_fixed32_n (n : BitVec 32) (w : World) :
    Calls Try.prog 25 #[.int .u32 (bv n)] w fun e w' => ∃ ao ys c, e = .returned (.slice ao ys.length c) ∧ ys = fixedL (n.setWidth 64) 4 ∧ BytesAt w' ao ys ∧ (ao = none → c = 0) ∧ Below w.heap.size w w' :=
  (wire_fixed32 n w).mono fun _ _ ⟨g, he, hM⟩ => ⟨some ⟨g, 0, none⟩, _, _, by rw [fixedL_len]; exact he, rfl, hM.at, (fun h => by cases h), hM.below⟩
theorem wire_fixed64_n (n : BitVec 64) (w : World) :
    Calls Try.prog 26 #[.int .u64 (bv n)] w fun e w' => ∃ ao ys c, e = .returned (.slice ao ys.length c) ∧ ys = fixedL n 8 ∧ BytesAt w' ao ys ∧ (ao = none → c = 0) ∧ Below w.heap.size w w' :=
  (wire_fixed64 n w).mono fun _ _ ⟨g, he, hM⟩ => ⟨some ⟨g, 0, none⟩, _, _, by rw [fixedL_len]; exact he, rfl, hM.at, (fun h => by cases h), hM.below⟩
/-- What stands behind a call that turned the reader alone. -/
theorem upd_below {w0 w w' : World} {b k : Nat} {v : Value} (h0 : Below w0.heap.size w0 w) (h : Upd b k v w w') (hb : w0.heap.size ≤ b) : Below w0.heap.size w0 w' := h.but.below h0 hb h0.size

set_option maxHeartbeats 4000000 in
set_option maxRecDepth 100000 in
theorem wire_runs_main (a : Option Addr) (U : List (BitVec 64)) (ca : Nat) (m : Option Addr) (I : List Int) (cm : Nat) (s : Option Addr) (L : List (List (BitVec 8))) (cs : Nat) (w : World) (n : Nat)
    (hU : U64sAt w a U) (hI : IntsAt w m I) (hL : ListsAt w s L) (lU : U.length = n) (lI : I.length = n) (lL : L.length = n) (hn : n ≤ 60) (hS : ∀ i, i < L.length → (nth L i).length ≤ 1048576) :
    Calls Try.prog 10 #[.slice a n ca, .slice m n cm, .slice s n cs] w (TrueBelow w) := by
  have HU := Lib.hid hU
  have HI := Lib.hid hI
  have HL := Lib.hid hL
  have LU := Lib.hid lU
  have LI := Lib.hid lI
  have LL := Lib.hid lL
  have HS := Lib.hid hS
  have RL : Hid (∀ k, k ≤ n → (runs U I L k).length ≤ 65000000) := Lib.hid fun k hk => by
    have := runs_len U I L 1048576 hS k (by omega)
    have h2 : k * (1048576 + 42) ≤ 60 * (1048576 + 42) := Nat.mul_le_mul_right _ (by omega)
    omega
  clear hU hI hL lU lI lL hS
  go_enter Try.func10, Try.ntmps10
  go_wp2_with fail
  refine (wire_begun _).mono ?_
  rintro e w1 ⟨rfl, hb⟩
  have B1 := Lib.hid hb
  clear hb
  go_wp2_with fail
  go_loopw [7, 8] (fun v i wr => ∃ k : Nat, k ≤ n ∧ i = .int .i64 k ∧ Hid (OwnB wr w1.heap.size v (runs U I L k)) ∧ Below w1.heap.size w1 wr) (fun _ i _ => n - (intOf i).toNat)
  case atStart => exact ⟨0, by omega, rfl, OwnB.nil _ _, Below.refl _ _⟩
  case round =>
    obtain ⟨k, hk, rfl, hO, hb⟩ := hrel
    have HO := Lib.hid hO.out
    have HK := Lib.hid hb
    clear hb hO
    by_cases hlt : k < n
    · obtain ⟨bu, ou, rfl, hcu⟩ := HU.out k (by rw [LU.out]; exact hlt)
      obtain ⟨hzr, bi, oi, rfl, hci⟩ := HI.out k (by rw [LI.out]; exact hlt)
      obtain ⟨bl, ol, ai, ci, rfl, hcl, hbs, hnil, hle, hcap⟩ := HL.out k (by rw [LL.out]; exact hlt)
      have HSk := Lib.hid (HS.out k (by rw [LL.out]; exact hlt))
      have CU := Lib.hid hcu
      have CI := Lib.hid hci
      have CL := Lib.hid hcl
      have HB := Lib.hid hbs
      have HNil := Lib.hid hnil
      have HZR := Lib.hid hzr
      have HZB := Lib.hid (bv_zigB hzr).symm
      have P0 := Lib.hid (below_trans B1.out HK.out)
      have RLk := Lib.hid (RL.out k hk)
      have VL1 := Lib.hid (varint_len (at64 U k))
      have VL2 := Lib.hid (varint_len (zigB (atI I k)))
      have VL3 := Lib.hid (varint_len (BitVec.ofNat 64 (nth L k).length))
      clear hcu hzr hci hcl hbs hnil hle hcap
      have hc := cell_keep P0.out CU.out
      go_wp2_with fail
      refine (wire_varint (at64 U k) _).mono ?_
      rintro e w2 ⟨v2, rfl, hO, hb⟩
      obtain ⟨a2, c2, rfl, x, nn, -, -, -⟩ := hO.slice
      have X := Lib.hid x
      have N := Lib.hid nn
      have Q2 := Lib.hid (HO.out.keep hb)
      have K2 := Lib.hid (HK.out.trans (hb.mono HK.out.size))
      clear hO hb x nn hc
      have LEN := Lib.hid (show (runs U I L k).length + (varint (at64 U k)).length ≤ 70000000 + 1 * 1100000 by have h0 := RLk.out; have h1 := VL1.out; have h2 := VL2.out; have h3 := VL3.out; have h4 := HSk.out; (try unfold wstr); (try simp only [List.length_append]); omega)
      go_wp2_with (refine wpList_append_bytes (o := ⟨some 44, _, _, _, _, _⟩) rfl _ _ rfl w1.heap.size _ (runs U I L k) rfl Q2.out a2 _ c2 (varint (at64 U k)) rfl rfl X.out N.out (by have := LEN.out; omega) K2.out.size ?_)
      intro v3 w3 hv hg hi
      obtain ⟨x1, hx1⟩ : ∃ y, runs U I L k ++ varint (at64 U k) = y := ⟨_, rfl⟩
      rw [hx1] at hv
      have HX1 := Lib.hid hx1
      have LX1 := Lib.hid (show x1.length ≤ 70000000 + 1 * 1100000 by rw [← hx1, List.length_append]; exact LEN.out)
      have K3 := Lib.hid (K2.out.trans (Q2.out.below hg (Nat.le_refl _) K2.out.size))
      have Q3 := Lib.hid hv
      have P3 := Lib.hid (below_trans B1.out K3.out)
      clear hi hg hv hx1 LEN X N Q2 K2
      have hc := cell_keep P3.out CI.out
      go_wp2_with fail
      refine (wire_zig _ _ HZR.out).mono ?_
      rintro e w' ⟨rfl, rfl⟩
      go_wp2_with fail
      refine (wire_varint_to _ (zigB (atI I k)) _ HZB.out).mono ?_
      rintro e w4 ⟨v4, rfl, hO, hb⟩
      obtain ⟨a4, c4, rfl, x, nn, -, -, -⟩ := hO.slice
      have X := Lib.hid x
      have N := Lib.hid nn
      have Q4 := Lib.hid (Q3.out.keep hb)
      have K4 := Lib.hid (K3.out.trans (hb.mono K3.out.size))
      clear hO hb x nn hc
      have LEN := Lib.hid (show (x1).length + (varint (zigB (atI I k))).length ≤ 70000000 + 2 * 1100000 by have h0 := RLk.out; have e1 := LX1.out; have h1 := VL1.out; have h2 := VL2.out; have h3 := VL3.out; have h4 := HSk.out; (try unfold wstr); (try simp only [List.length_append]); omega)
      go_wp2_with (refine wpList_append_bytes (o := ⟨some 52, _, _, _, _, _⟩) rfl _ _ rfl w1.heap.size _ (x1) rfl Q4.out a4 _ c4 (varint (zigB (atI I k))) rfl rfl X.out N.out (by have := LEN.out; omega) K4.out.size ?_)
      intro v5 w5 hv hg hi
      obtain ⟨x2, hx2⟩ : ∃ y, x1 ++ varint (zigB (atI I k)) = y := ⟨_, rfl⟩
      rw [hx2] at hv
      have HX2 := Lib.hid hx2
      have LX2 := Lib.hid (show x2.length ≤ 70000000 + 2 * 1100000 by rw [← hx2, List.length_append]; exact LEN.out)
      have K5 := Lib.hid (K4.out.trans (Q4.out.below hg (Nat.le_refl _) K4.out.size))
      have Q5 := Lib.hid hv
      have P5 := Lib.hid (below_trans B1.out K5.out)
      clear hi hg hv hx2 LEN X N Q4 K4
      have hc := cell_keep P5.out CU.out
      go_wp2_with fail
      refine (wire_fixed32_n _ _).mono ?_
      rintro e w6 ⟨a6, y3, c6, rfl, hmm, hx, hnn, hb⟩
      have X := Lib.hid hx
      have N := Lib.hid hnn
      have Q6 := Lib.hid (Q5.out.keep hb)
      have K6 := Lib.hid (K5.out.trans (hb.mono K5.out.size))
      have HY3 := Lib.hid hmm
      have LY3 := Lib.hid (show y3.length ≤ 8 by rw [hmm, fixedL_len]; omega)
      clear hx hnn hb hc hmm
      have LEN := Lib.hid (show (x2).length + (y3).length ≤ 70000000 + 3 * 1100000 by have h0 := RLk.out; have e1 := LX1.out; have e2 := LX2.out; have h1 := VL1.out; have h2 := VL2.out; have h3 := VL3.out; have h4 := HSk.out; have h5 := LY3.out; (try unfold wstr); (try simp only [List.length_append]); omega)
      go_wp2_with (refine wpList_append_bytes (o := ⟨some 60, _, _, _, _, _⟩) rfl _ _ rfl w1.heap.size _ (x2) rfl Q6.out a6 _ c6 (y3) rfl rfl X.out N.out (by have := LEN.out; omega) K6.out.size ?_)
      intro v7 w7 hv hg hi
      obtain ⟨x3, hx3⟩ : ∃ y, x2 ++ y3 = y := ⟨_, rfl⟩
      rw [hx3] at hv
      have HX3 := Lib.hid hx3
      have LX3 := Lib.hid (show x3.length ≤ 70000000 + 3 * 1100000 by rw [← hx3, List.length_append]; exact LEN.out)
      have K7 := Lib.hid (K6.out.trans (Q6.out.below hg (Nat.le_refl _) K6.out.size))
      have Q7 := Lib.hid hv
      have P7 := Lib.hid (below_trans B1.out K7.out)
      clear hi hg hv hx3 LEN X N Q6 K6
      have hc := cell_keep P7.out CU.out
      go_wp2_with fail
      refine (wire_fixed64_n _ _).mono ?_
      rintro e w8 ⟨a8, y4, c8, rfl, hmm, hx, hnn, hb⟩
      have X := Lib.hid hx
      have N := Lib.hid hnn
      have Q8 := Lib.hid (Q7.out.keep hb)
      have K8 := Lib.hid (K7.out.trans (hb.mono K7.out.size))
      have HY4 := Lib.hid hmm
      have LY4 := Lib.hid (show y4.length ≤ 8 by rw [hmm, fixedL_len]; omega)
      clear hx hnn hb hc hmm
      have LEN := Lib.hid (show (x3).length + (y4).length ≤ 70000000 + 4 * 1100000 by have h0 := RLk.out; have e1 := LX1.out; have e2 := LX2.out; have e3 := LX3.out; have h1 := VL1.out; have h2 := VL2.out; have h3 := VL3.out; have h4 := HSk.out; have h5 := LY4.out; (try unfold wstr); (try simp only [List.length_append]); omega)
      go_wp2_with (refine wpList_append_bytes (o := ⟨some 67, _, _, _, _, _⟩) rfl _ _ rfl w1.heap.size _ (x3) rfl Q8.out a8 _ c8 (y4) rfl rfl X.out N.out (by have := LEN.out; omega) K8.out.size ?_)
      intro v9 w9 hv hg hi
      obtain ⟨x4, hx4⟩ : ∃ y, x3 ++ y4 = y := ⟨_, rfl⟩
      rw [hx4] at hv
      have HX4 := Lib.hid hx4
      have LX4 := Lib.hid (show x4.length ≤ 70000000 + 4 * 1100000 by rw [← hx4, List.length_append]; exact LEN.out)
      have K9 := Lib.hid (K8.out.trans (Q8.out.below hg (Nat.le_refl _) K8.out.size))
      have Q9 := Lib.hid hv
      have P9 := Lib.hid (below_trans B1.out K9.out)
      clear hi hg hv hx4 LEN X N Q8 K8
      have hc := cell_keep P9.out CL.out
      go_wp2_with fail
      refine (wire_string ai (nth L k) ci _ (HB.out.below P9.out) HNil.out (by have := HSk.out; omega)).mono ?_
      rintro e w10 ⟨v10, rfl, hO, hb⟩
      obtain ⟨a10, c10, rfl, x, nn, -, -, -⟩ := hO.slice
      have X := Lib.hid x
      have N := Lib.hid nn
      have Q10 := Lib.hid (Q9.out.keep hb)
      have K10 := Lib.hid (K9.out.trans (hb.mono K9.out.size))
      clear hO hb x nn hc
      have LEN := Lib.hid (show (x4).length + (wstr (nth L k)).length ≤ 70000000 + 5 * 1100000 by have h0 := RLk.out; have e1 := LX1.out; have e2 := LX2.out; have e3 := LX3.out; have e4 := LX4.out; have h1 := VL1.out; have h2 := VL2.out; have h3 := VL3.out; have h4 := HSk.out; (try unfold wstr); (try simp only [List.length_append]); omega)
      go_wp2_with (refine wpList_append_bytes (o := ⟨some 74, _, _, _, _, _⟩) rfl _ _ rfl w1.heap.size _ (x4) rfl Q10.out a10 _ c10 (wstr (nth L k)) rfl rfl X.out N.out (by have := LEN.out; omega) K10.out.size ?_)
      intro v11 w11 hv hg hi
      obtain ⟨x5, hx5⟩ : ∃ y, x4 ++ wstr (nth L k) = y := ⟨_, rfl⟩
      rw [hx5] at hv
      have HX5 := Lib.hid hx5
      have LX5 := Lib.hid (show x5.length ≤ 70000000 + 5 * 1100000 by rw [← hx5, List.length_append]; exact LEN.out)
      have K11 := Lib.hid (K10.out.trans (Q10.out.below hg (Nat.le_refl _) K10.out.size))
      have Q11 := Lib.hid hv
      have P11 := Lib.hid (below_trans B1.out K11.out)
      clear hi hg hv hx5 LEN X N Q10 K10
      have HF : x5 = runs U I L (k + 1) := by rw [← HX5.out, ← HX4.out, ← HX3.out, ← HX2.out, ← HX1.out, HY3.out, HY4.out]; simp only [runs, fld, List.append_assoc]
      have QF := Lib.hid (HF ▸ Q11.out : OwnB w11 w1.heap.size v11 (runs U I L (k + 1)))
      clear HF HX1 HX2 HX3 HX4 HX5 HY3 HY4
      go_wp2_with fail
      go_roundw
      case rel => exact ⟨k + 1, by omega, by go_num, QF, K11.out⟩
      case measure => simp [intOf]; omega
    · have hge : (n : Int) ≤ (k : Int) := by omega
      have e : n = k := by omega
      subst e
      obtain ⟨T, hT⟩ : ∃ T, (runs U I L n).length = T := ⟨_, rfl⟩
      have HT := Lib.hid hT
      obtain ⟨aR, cR, hv, xR, nR, -, -, -⟩ := HO.out.slice
      rw [hT] at hv
      subst hv
      have XR := Lib.hid xR
      have NR := Lib.hid nR
      have HTm := Lib.hid (show T ≤ 65000000 by rw [← hT]; exact RL.out n (Nat.le_refl _))
      have P0 := Lib.hid (below_trans B1.out HK.out)
      clear xR nR hT
      go_wp2_with fail
      refine (new_reader_to aR (runs U I L n) T cR _ XR.out HT.out NR.out (by have := HTm.out; omega)).mono ?_
      rintro e w2 ⟨b, rfl, hb0, hR, hb⟩
      have HBb := Lib.hid (show w.heap.size ≤ b from Nat.le_trans P0.out.size hb0)
      have R2 := Lib.hid hR
      have P2 := Lib.hid (below_trans P0.out hb)
      have HLn := Lib.hid (show (runs U I L n).length ≤ 140737488355328 by rw [HT.out]; have := HTm.out; omega)
      clear hb0 hR hb XR NR
      go_wp2_with fail
      obtain ⟨wo, rfl⟩ : ∃ wo : World, wo = wr := ⟨_, rfl⟩
      go_loopw [10] (fun i wq => ∃ k : Nat, k ≤ n ∧ i = .int .i64 k ∧ Hid (RdAt wq b (runs U I L n) (runs U I L k).length 0) ∧ Below w.heap.size w wq) (fun i _ => n - (intOf i).toNat)
      case atStart => exact ⟨0, by omega, rfl, R2, P2.out⟩
      case round =>
       obtain ⟨k, hk, rfl, hR, hb⟩ := hrel
       have P0 := Lib.hid hb
       clear hb
       by_cases hlt : k < n
       · obtain ⟨bu, ou, rfl, hcu⟩ := HU.out k (by rw [LU.out]; exact hlt)
         obtain ⟨hzr, bi, oi, rfl, hci⟩ := HI.out k (by rw [LI.out]; exact hlt)
         obtain ⟨bl, ol, ai, ci, rfl, hcl, hbs, hnil, hle, hcap⟩ := HL.out k (by rw [LL.out]; exact hlt)
         have HSk := Lib.hid (HS.out k (by rw [LL.out]; exact hlt))
         obtain ⟨p, j1, j2, j5, hp, r1, r2, t4, t8, r5, hnx, hend⟩ := runs_reads U I L hlt (by have := HSk.out; omega)
         have R0 := Lib.hid (hp ▸ hR.out.on (below_drew _))
         have HR1 := Lib.hid r1
         have HR2 := Lib.hid r2
         have HT4 := Lib.hid t4
         have HT8 := Lib.hid t8
         have HR5 := Lib.hid r5
         have HNX := Lib.hid hnx
         have HLE := Lib.hid hend
         have HB := Lib.hid hbs
         have HZR := Lib.hid hzr
         have Q0 := Lib.hid (below_trans P0.out (below_drew _))
         have kU : ∀ q : In (fun w' => Below w.heap.size w w'), q.w.cell? ⟨bu, ou + k, none⟩ = some (.int .u64 (bv (at64 U k))) := fun q => cell_keep q.h hcu
         have kI : ∀ q : In (fun w' => Below w.heap.size w w'), q.w.cell? ⟨bi, oi + k, none⟩ = some (.int .i64 (atI I k)) := fun q => cell_keep q.h hci
         have kL : ∀ q : In (fun w' => Below w.heap.size w w'), q.w.cell? ⟨bl, ol + k, none⟩ = some (.slice ai (nth L k).length ci) := fun q => cell_keep q.h hcl
         clear hcu hzr hci hcl hbs hnil hle hcap hp r1 r2 t4 t8 r5 hnx hend hR
         go_wp2_with fail
         refine wp_region_mixed [0, 2, 3, 4, 5, 1, 6, 7, 8, 10, 11, 12, 13, 9, 14, 15, 16, 17, 19, 20, 21, 22, 23, 18, 24, 25, 26, 27, 29, 30, 31, 32, 28, 33, 34, 35, 36, 37, 38, 39, 40, 41, 43, 44, 45, 46, 42, 47, 48, 49] (fun w' => Below w.heap.size w w') (by kernel_rfl) (by kernel_rfl) (by intro c a d v w h; cases d <;> exact h) Q0.out ?_
         intro hne
         simp only [pick, List.map_cons, List.map_nil, List.getD_cons_zero, List.getD_cons_succ]
         refine wpMix_reads 5 _ (by kernel_rfl) ?_
         simp only [List.take_succ_cons, List.take_zero, List.drop_succ_cons, List.drop_zero]
         repeat (go_big_quiet_step (fail))
         refine wpQuiet_nil ?_
         refine wpMix_act rfl ?_ rfl
         go_wp2_with fail
         refine (varint_full b _ p _ R0.out HLn.out (at64 U k) j1 HR1.out).mono ?_
         rintro x w3 ⟨rfl, hu⟩
         have R3 := Lib.hid (R0.out.moved (p + j1) (by have := HLE.out; omega) hu)
         have Q3 := Lib.hid (upd_below Q0.out hu HBb.out)
         clear hu
         go_wp2_with fail
         refine ⟨⟨⟨_, Q3.out⟩, rfl⟩, ?_⟩
         refine wpMix_reads 7 _ (by kernel_rfl) ?_
         simp only [List.take_succ_cons, List.take_zero, List.drop_succ_cons, List.drop_zero]
         repeat (go_big_quiet_step (fail))
         refine wpQuiet_nil ?_
         refine wpMix_act rfl ?_ rfl
         go_wp2_with fail
         refine (signed_to b _ (p + j1) _ R3.out HLn.out (atI I k) HZR.out j2 HR2.out).mono ?_
         rintro x w4 ⟨rfl, hu⟩
         have R4 := Lib.hid (R3.out.moved (p + j1 + j2) (by have := HLE.out; omega) hu)
         have Q4 := Lib.hid (upd_below Q3.out hu HBb.out)
         clear hu
         go_wp2_with fail
         refine ⟨⟨⟨_, Q4.out⟩, rfl⟩, ?_⟩
         refine wpMix_reads 9 _ (by kernel_rfl) ?_
         simp only [List.take_succ_cons, List.take_zero, List.drop_succ_cons, List.drop_zero]
         repeat (go_big_quiet_step (fail))
         refine wpQuiet_nil ?_
         refine wpMix_act rfl ?_ rfl
         go_wp2_with fail
         refine (fixed32_to b _ (p + j1 + j2) _ R4.out HLn.out _ (by have := HLE.out; omega) HT4.out).mono ?_
         rintro x w5 ⟨rfl, hu⟩
         have R5 := Lib.hid (R4.out.moved (p + j1 + j2 + 4) (by have := HLE.out; omega) hu)
         have Q5 := Lib.hid (upd_below Q4.out hu HBb.out)
         clear hu
         go_wp2_with fail
         refine ⟨⟨⟨_, Q5.out⟩, rfl⟩, ?_⟩
         refine wpMix_reads 8 _ (by kernel_rfl) ?_
         simp only [List.take_succ_cons, List.take_zero, List.drop_succ_cons, List.drop_zero]
         repeat (go_big_quiet_step (fail))
         refine wpQuiet_nil ?_
         refine wpMix_act rfl ?_ rfl
         go_wp2_with fail
         refine (fixed64_to b _ (p + j1 + j2 + 4) _ R5.out HLn.out _ (by have := HLE.out; omega) HT8.out).mono ?_
         rintro x w6 ⟨rfl, hu⟩
         have R6 := Lib.hid (R5.out.moved (p + j1 + j2 + 4 + 8) (by have := HLE.out; omega) hu)
         have Q6 := Lib.hid (upd_below Q5.out hu HBb.out)
         clear hu
         go_wp2_with fail
         refine ⟨⟨⟨_, Q6.out⟩, rfl⟩, ?_⟩
         refine wpMix_reads 13 _ (by kernel_rfl) ?_
         simp only [List.take_succ_cons, List.take_zero, List.drop_succ_cons, List.drop_zero]
         repeat (go_big_quiet_step (fail))
         refine wpQuiet_nil ?_
         refine wpMix_act rfl ?_ rfl
         go_wp2_with fail
         refine (string_ok b _ (p + j1 + j2 + 4 + 8) _ _ R6.out HLn.out (by have := HSk.out; omega) (nth L k) j5 HR5.out).mono ?_
         rintro x w7 ⟨v7, rfl, hO, hu⟩
         obtain ⟨a7, c7, rfl, x7, -, -, -, -⟩ := hO.slice
         have X7 := Lib.hid x7
         have R7 := Lib.hid (R6.out.moved (p + j1 + j2 + 4 + 8 + j5) HLE.out hu)
         have Q7 := Lib.hid (upd_below Q6.out hu HBb.out)
         clear hu hO x7
         go_wp2_with fail
         refine ⟨⟨⟨_, Q7.out⟩, rfl⟩, ?_⟩
         refine wpMix_act rfl ?_ rfl
         go_wp2_with fail
         refine (eq_bytes_of a7 ai _ _ _ _ c7 ci true _ X7.out (HB.out.below Q7.out) rfl rfl (by have := HSk.out; omega) (decide_eq_true rfl)).mono ?_
         rintro x w8 ⟨rfl, n8, hw8⟩
         have Q8 := Lib.hid (show Below w.heap.size w w8 from below_trans Q7.out (by rw [hw8]; exact below_drewN _ _))
         have R8 := Lib.hid (show RdAt w8 b _ _ 0 from R7.out.on (by rw [hw8]; exact below_drewN _ _))
         clear hw8 X7
         go_wp2_with fail
         refine ⟨⟨⟨_, Q8.out⟩, rfl⟩, ?_⟩
         refine wpMix_reads 2 _ (by kernel_rfl) ?_
         simp only [List.take_succ_cons, List.take_zero, List.drop_succ_cons, List.drop_zero]
         repeat (go_big_quiet_step (fail))
         refine wpQuiet_nil ?_
         refine wpMix_nil ?_
         clear hne kU kI kL
         go_wp2_with fail
         go_roundw
         case rel => exact ⟨k + 1, by omega, by go_num, by rw [HNX.out]; exact R8, Q8.out⟩
         case measure => simp [intOf]; omega
       · have hge : (n : Int) ≤ (k : Int) := by omega
         have e : n = k := by omega
         subst e
         have R0 := Lib.hid (show RdAt _ b (runs U I L n) T 0 from HT.out ▸ hR.out)
         clear hR
         go_wp2_with fail
         refine (reader_err_ok b _ T _ R0.out).mono ?_
         rintro x w3 ⟨rfl, n3, hw3⟩
         have Q3 := Lib.hid (show Below w.heap.size w w3 from below_trans P0.out (by rw [hw3]; exact below_drewN _ _))
         have R3 := Lib.hid (show RdAt w3 b _ T 0 from R0.out.on (by rw [hw3]; exact below_drewN _ _))
         clear hw3
         go_wp2_with fail
         refine (reader_left_ok b _ T _ R3.out HLn.out HT.out).mono ?_
         rintro x w4 ⟨rfl, n4, hw4⟩
         have Q4 := Lib.hid (show Below w.heap.size w w4 from below_trans Q3.out (by rw [hw4]; exact below_drewN _ _))
         have R4 := Lib.hid (show RdAt w4 b _ T 0 from R3.out.on (by rw [hw4]; exact below_drewN _ _))
         clear hw4
         go_wp2_with fail
         refine (reader_at b _ T 0 _ R4.out).mono ?_
         rintro x w5 ⟨rfl, rfl⟩
         go_wp2_with fail
         go_ret
         exact ⟨rfl, Q4.out⟩

set_option maxHeartbeats 1000000 in
set_option maxRecDepth 100000 in
/-- Lists of unlike lengths, or too long: nothing is asked. -/
theorem wire_runs_none (a : Option Addr) (ca : Nat) (m : Option Addr) (cm : Nat) (s : Option Addr) (cs : Nat) (w : World) (n n2 n3 : Nat) (h : ((n : Int) != (n2 : Int)) = true ∨ n = n2 ∧ (((n : Int) != (n3 : Int)) = true ∨ n = n3 ∧ (60 : Int) < (n : Int))) :
    Calls Try.prog 10 #[.slice a n ca, .slice m n2 cm, .slice s n3 cs] w (TrueBelow w) := by
  rcases h with h | ⟨rfl, h | ⟨rfl, h⟩⟩
  all_goals
    go_enter Try.func10, Try.ntmps10
    go_wp2_with fail
    refine (wire_begun _).mono ?_
    rintro e w1 ⟨rfl, hb⟩
    have B1 := Lib.hid hb
    clear hb
    go_wp2_with fail
    go_ret
    exact ⟨rfl, B1.out⟩
theorem wire_runs (a : Option Addr) (U : List (BitVec 64)) (ca : Nat) (m : Option Addr) (I : List Int) (cm : Nat) (s : Option Addr) (L : List (List (BitVec 8))) (cs : Nat) (w : World)
    (hU : U64sAt w a U) (hI : IntsAt w m I) (hL : ListsAt w s L) (hS : ∀ i, i < L.length → (nth L i).length ≤ 1048576) :
    Calls Try.prog 10 #[.slice a U.length ca, .slice m I.length cm, .slice s L.length cs] w (TrueBelow w) := by
  by_cases h : U.length = I.length ∧ U.length = L.length ∧ U.length ≤ 60
  · have := wire_runs_main a U ca m I cm s L cs w U.length hU hI hL rfl h.1.symm h.2.1.symm h.2.2 hS
    rwa [show I.length = U.length from h.1.symm, show L.length = U.length from h.2.1.symm]
  · refine wire_runs_none a ca m cm s cs w _ _ _ ?_
    by_cases h1 : U.length = I.length
    · by_cases h2 : U.length = L.length
      · exact .inr ⟨h1, .inr ⟨h2, by omega⟩⟩
      · exact .inr ⟨h1, .inl (by simp; omega)⟩
    · exact .inl (by simp; omega)
end Go.Proofs.Ytggbhakkgbfneaa

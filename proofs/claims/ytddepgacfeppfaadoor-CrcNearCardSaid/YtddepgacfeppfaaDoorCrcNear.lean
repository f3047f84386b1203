/- The walk of flumelaw2's CrcNear. -/
import Derived.Test.YtddepgacfeppfaaDoorPlainNear
import Derived.Test.YtddepgacfeppfaaDoorCrcBegun
import Derived.Test.YtddepgacfeppfaaDoorFrame
import Derived.Deep.DeepCutAuto
namespace Go.Proofs.YtddepgacfeppfaaDoor
open Go.RowKit

theorem near_early (a : Option Addr) (A : List (BitVec 8)) (ca : Nat) (at_ : Int) (t : BitVec 32) (w : World) (hD : DeB w) (h : A.length < 5 ∨ 200 < A.length ∨ t = 0#32) :
    Calls Tryd.prog 4 #[.slice a A.length ca, .int .i64 at_, .int .u32 (bv t)] w (TrueBelow w) := by
  have HD := Lib.hid hD
  clear hD
  have hc : A.length < 5 ∨ (5 ≤ A.length ∧ 200 < A.length) ∨ (5 ≤ A.length ∧ A.length ≤ 200 ∧ (t == 0#32) = true) := by
    rcases h with h | h | h
    · exact .inl h
    · exact .inr (.inl ⟨by omega, h⟩)
    · by_cases h1 : A.length < 5
      · exact .inl h1
      · by_cases h2 : 200 < A.length
        · exact .inr (.inl ⟨by omega, h2⟩)
        · exact .inr (.inr ⟨by omega, by omega, by simpa using h⟩)
  clear h
  rcases hc with h1 | ⟨h1, h2⟩ | ⟨h1, h2, h3⟩
  all_goals
    go_enter Tryd.func4, Tryd.ntmps4
    go_wp2_with fail
    refine (crc_begun _ HD.out).mono ?_
    rintro e w1 ⟨rfl, hb⟩
    have H1 := Lib.hid hb
    clear hb
    go_wp2_with fail
    go_ret
    exact ⟨rfl, H1.out⟩

theorem shl_one8 (k : Nat) (h : k < 8) : IntKind.u8.wrap (2 ^ k) = bv (1#8 <<< k) := by
  have h1 : (2 : Nat) ^ k < 2 ^ 8 := Nat.pow_lt_pow_right (by decide) h
  have h2 : ((2 : Int) ^ k) = ((2 ^ k : Nat) : Int) := by simp
  unfold bv
  rw [h2, IntKind.wrap_u8', BitVec.toNat_shiftLeft]
  simp [Nat.shiftLeft_eq]

/-- The copy as it stands behind k rounds: in block g, of the call's own. -/
structure Turned (w wr : World) (g : Nat) (bs : List (BitVec 8)) : Prop where
  below : Below w.heap.size w wr
  own : w.heap.size ≤ g
  there : wr.there g 0 bs.length
  bytes : ∀ i, i < bs.length → wr.cell? ⟨g, i, none⟩ = some (.int .u8 (bv (at8 bs i)))
theorem Turned.drewN {w wr : World} {g : Nat} {bs : List (BitVec 8)} (h : Turned w wr g bs) (n : Nat) : Turned w (wr.drewN n) g bs :=
  ⟨h.below.trans ((below_drewN wr n).mono h.below.size), h.own, h.there, h.bytes⟩
theorem Turned.turn {w wr : World} {g j : Nat} {bs : List (BitVec 8)} {x : BitVec 8} (h : Turned w wr g bs) (hj : j < bs.length) :
    Turned w (wr.setCell ⟨g, j, none⟩ (.int .u8 (bv (at8 bs j ^^^ x)))) g (Crc.turnAt bs j x) := by
  refine ⟨h.below.setCell h.own _, h.own, by rw [Crc.turnAt_length]; exact there_setCell h.there _ _, fun i hi => ?_⟩
  rw [Crc.turnAt_length] at hi
  rw [Crc.turnAt_at bs j i x hj]
  by_cases e : i = j
  · subst e; rw [if_pos rfl]; exact World.cell?_setCell_same _ _ _ (h.bytes i hi)
  · rw [if_neg e, World.cell?_setCell_other _ _ _ _ (by intro h; injection h; omega)]; exact h.bytes i hi
theorem flip_yes (bs : List (BitVec 8)) (t : BitVec 32) (f k : Nat) (h : (t >>> k &&& 1#32 == 1#32) = true) : Crc.flip bs t f (k + 1) = Crc.turnAt (Crc.flip bs t f k) ((f + k) / 8) (1#8 <<< ((f + k) % 8)) := by
  rw [low_bit] at h; rw [Crc.flip, if_pos h]
theorem flip_no (bs : List (BitVec 8)) (t : BitVec 32) (f k : Nat) (h : (t >>> k &&& 1#32 == 1#32) = false) : Crc.flip bs t f (k + 1) = Crc.flip bs t f k := by
  rw [low_bit] at h; rw [Crc.flip, if_neg (by simp [h])]

set_option maxRecDepth 100000 in
theorem near_walk (a : Option Addr) (A : List (BitVec 8)) (ca : Nat) (at_ : Int) (t : BitVec 32) (w : World) (hD : DeB w) (hA : BytesAt w a A) (na : a = none → ca = 0) (l5 : 5 ≤ A.length) (l200 : A.length ≤ 200) (ht : t ≠ 0#32)
    (hat : -9223372036854775808 ≤ at_ ∧ at_ ≤ 9223372036854775807) :
    Calls Tryd.prog 4 #[.slice a A.length ca, .int .i64 at_, .int .u32 (bv t)] w (TrueBelow w) := by
  have HD := Lib.hid hD
  have HA := Lib.hid hA
  have NA := Lib.hid na
  have HT := Lib.hid ht
  have h0 : (t == 0#32) = false := by simpa using ht
  obtain ⟨ha1, ha2⟩ := hat
  have d1 : decide ((A.length : Int) < 5) = false := by simp; omega
  have d2 : decide ((200 : Int) < (A.length : Int)) = false := by simp; omega
  clear hD hA na ht
  go_enter Tryd.func4, Tryd.ntmps4
  go_wp2_with fail
  refine (crc_begun _ HD.out).mono ?_
  rintro e w1 ⟨rfl, hb⟩
  have H1 := Lib.hid hb
  clear hb
  go_wp2_with (refine wpList_append_bytes (o := ⟨some 25, _, _, _, _, _⟩) rfl _ _ rfl w1.heap.size _ [] rfl (OwnB.nil _ _) a A.length ca A rfl rfl (HA.out.below H1.out) NA.out (by simp; omega) (Nat.le_refl _) ?_)
  intro v2 w2 hv2 hg2 hi2
  clear hi2
  have H2 : Hid (Below w1.heap.size w1 w2) := (OwnB.nil w1 w1.heap.size).below hg2 (Nat.le_refl _) (Nat.le_refl _)
  have hv2' : OwnB w2 w1.heap.size v2 A := hv2
  obtain ⟨ao, cap, hv, hnil, hlc, hcm, hbs, hsh⟩ := hv2'.shape
  rw [hv]
  obtain ⟨g, rfl, hg1, hg3, hth⟩ : ∃ g, ao = some ⟨g, 0, none⟩ ∧ w1.heap.size ≤ g ∧ g < w2.heap.size ∧ w2.there g 0 cap := by
    rcases hsh with rfl | h
    · obtain ⟨b, off, e, _⟩ := hbs 0 (by omega); cases e
    · exact h
  have HT2 : Hid (Turned w w2 g A) := ⟨below_trans H1.out H2.out, by have := H1.out.size; omega, fun j hj => hth j (by omega), fun i hi => by
    obtain ⟨b, off, e, hc⟩ := hbs i hi
    injection e with e; injection e with e1 e2; subst e1 e2
    rw [Nat.zero_add] at hc; exact hc⟩
  clear hv hnil hcm hbs hsh hg1 hg3 hth hv2 hv2' hg2 H2
  go_upto_if 27 with (fail)
  go_cut [8] (fun s wc => ∃ f : Nat, f + 32 ≤ 8 * A.length ∧ s = .int .i64 f ∧ Turned w wc g A)
  case first =>
    go_wp2_with fail
    · have hm1 : 0 ≤ at_ % (8 * (A.length : Int) - 31) := Int.emod_nonneg _ (by omega)
      have hm2 : at_ % (8 * (A.length : Int) - 31) < 8 * (A.length : Int) - 31 := Int.emod_lt_of_pos _ (by omega)
      go_meet
      exact ⟨(at_ % (8 * (A.length : Int) - 31)).toNat, by omega, by rw [Int.toNat_of_nonneg hm1], HT2.out⟩
    · go_meet
      exact ⟨0, by omega, rfl, HT2.out⟩
  case rest =>
    obtain ⟨f, hf, rfl, hT⟩ := hcut
    have HT3 := Lib.hid hT
    clear hT HT2
    go_wp2_with fail
    obtain ⟨w3, rfl⟩ : ∃ w3 : World, w3 = wc := ⟨_, rfl⟩
    go_loopw [9] (fun i wr => ∃ k : Nat, k ≤ 32 ∧ i = .int .i64 k ∧ Turned w wr g (Crc.flip A t f k)) (fun i _ => 32 - (intOf i).toNat)
    case atStart => exact ⟨0, by omega, rfl, HT3.out⟩
    case round =>
      obtain ⟨k, hk, rfl, hT⟩ := hrel
      have HK := Lib.hid hT
      clear hT
      by_cases hlt : k < 32
      · have hsh := bv_shr t k
        have hlen := Crc.flip_length A t f k
        have hj : (f + k) / 8 < (Crc.flip A t f k).length := by rw [hlen]; omega
        have hcell := HK.out.bytes ((f + k) / 8) hj
        have hfz := (HK.out.there ((f + k) / 8) hj).2
        rw [Nat.zero_add] at hfz
        have HJ := Lib.hid hj
        have hj2 : (f + k) / 8 < A.length := by omega
        have hs8 := shl_one8 ((f + k) % 8) (by omega)
        rw [IntKind.wrap_u8'] at hs8
        have hy := Lib.hid (flip_yes A t f k)
        have hn := Lib.hid (flip_no A t f k)
        clear hj hlen
        go_wp2_with fail
        · refine wp_region_tail_drew 19 (by kernel_rfl) (by kernel_rfl) ?_
          simp only [List.take_succ_cons, List.take_zero, List.drop_succ_cons, List.drop_zero]
          repeat (go_big_quiet_step (fail))
          refine wpQuiet_nil ?_
          intro w4 hw4
          obtain ⟨nq, rfl⟩ := hw4
          go_wp2_with fail
          go_roundw
          case rel => exact ⟨k + 1, by omega, by go_num, by rw [hy.out (by assumption)]; exact (HK.out.drewN nq).turn HJ.out⟩
          case measure => simp [intOf]; omega
        · go_roundw
          case rel => exact ⟨k + 1, by omega, by go_num, by rw [hn.out (by assumption)]; exact HK.out⟩
          case measure => simp [intOf]; omega
      · have hge : (32 : Int) ≤ (k : Int) := by omega
        have HC : Hid (BytesAt wr (some ⟨g, 0, none⟩) (Crc.flip A t f 32)) := by
          obtain rfl : k = 32 := by omega
          intro i hi
          exact ⟨g, 0, rfl, by rw [Nat.zero_add]; exact HK.out.bytes i hi⟩
        have HL := Lib.hid (Crc.flip_length A t f 32)
        have hne : (Crc.sum A != Crc.sum (Crc.flip A t f 32)) = true := by simpa using Crc.near A t f hf HT.out
        have HB := Lib.hid HK.out.below
        clear HK
        go_wp2_with fail
        refine (crc_sum a A ca _ (HA.out.below HB.out) (by omega)).mono ?_
        rintro e w5 ⟨rfl, hb⟩
        have HC5 := Lib.hid (HC.out.below hb)
        have HB5 := Lib.hid (below_trans HB.out hb)
        clear hb HC HB
        go_wp2_with fail
        refine (crc_sum_of (some ⟨g, 0, none⟩) A.length (Crc.flip A t f 32) cap _ HL.out HC5.out (by omega)).mono ?_
        rintro e w6 ⟨rfl, hb⟩
        have HB6 := Lib.hid (below_trans HB5.out hb)
        clear hb
        go_wp2_with fail
        go_ret
        exact ⟨rfl, HB6.out⟩
end Go.Proofs.YtddepgacfeppfaaDoor

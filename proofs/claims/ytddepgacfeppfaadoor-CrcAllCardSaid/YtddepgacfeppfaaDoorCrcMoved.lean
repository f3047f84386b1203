/- The walk of crc.moved: a register moved on by n bytes 0, by powers. -/
import Derived.Test.YtddepgacfeppfaaDoorCrcTwice
namespace Go.Proofs.YtddepgacfeppfaaDoor
open Go.RowKit

theorem shl_one (k : Nat) (h : k < 32) : IntKind.u32.wrap (2 ^ k) = bv (1#32 <<< k) := by
  have h1 : (2 : Nat) ^ k < 2 ^ 32 := Nat.pow_lt_pow_right (by decide) h
  have h2 : ((2 : Int) ^ k) = ((2 ^ k : Nat) : Int) := by simp
  unfold bv
  rw [h2, IntKind.wrap_u32', BitVec.toNat_shiftLeft]
  simp [Nat.shiftLeft_eq]
def pw (j : Nat) (i : Nat) : BitVec 32 := Crc.moved (2 ^ j) (1#32 <<< i)
theorem pw_zero (i : Nat) : Crc.step (1#32 <<< i) = pw 0 i := rfl
theorem ap_pw (j : Nat) (c : BitVec 32) : Crc.ap (pw j) c = Crc.moved (2 ^ j) c := Crc.ap_moved (2 ^ j) c
theorem pw_twice (j : Nat) : (fun i => Crc.ap (pw j) (pw j i)) = pw (j + 1) := by
  funext i
  rw [ap_pw]; unfold pw
  rw [← Crc.moved_add, Nat.pow_succ, Nat.mul_two]
theorem moved_odd (j n : Nat) (c : BitVec 32) (h : n % 2 = 1) : Crc.moved (2 ^ (j + 1) * (n / 2)) (Crc.ap (pw j) c) = Crc.moved (2 ^ j * n) c := by
  rw [ap_pw, ← Crc.moved_add]
  congr 1
  rw [Nat.pow_succ, Nat.mul_assoc, ← Nat.mul_one (2 ^ j), Nat.mul_assoc, ← Nat.mul_add]
  congr 1; simp; omega
theorem moved_even (j n : Nat) (c : BitVec 32) (h : n % 2 = 0) : Crc.moved (2 ^ (j + 1) * (n / 2)) c = Crc.moved (2 ^ j * n) c := by
  congr 1
  rw [Nat.pow_succ, Nat.mul_assoc]
  congr 1; omega

theorem and_one_i64 (k : Nat) (h : k ≤ 9223372036854775807) : bits .and .i64 (k : Int) 1 = ((k % 2 : Nat) : Int) := by
  show IntKind.i64.wrap ((BitVec.ofInt 64 (k : Int) &&& BitVec.ofInt 64 1).toNat : Int) = _
  rw [BitVec.toNat_and, ofInt_u64 k (by omega), show (BitVec.ofInt 64 1).toNat = 1 from rfl, Nat.and_one_is_mod]
  exact IntWalk.i64_in _ (by omega)
theorem odd_yes (k : Nat) (h : k ≤ 9223372036854775807) (ho : k % 2 = 1) : (bits .and .i64 (k : Int) 1 == 1) = true := by rw [and_one_i64 k h, ho]; rfl
theorem odd_no (k : Nat) (h : k ≤ 9223372036854775807) (ho : k % 2 = 0) : (bits .and .i64 (k : Int) 1 == 1) = false := by rw [and_one_i64 k h, ho]; rfl

set_option maxRecDepth 100000 in
theorem crc_moved (c : BitVec 32) (n : Nat) (w : World) (hn : n ≤ 9223372036854775807) (hD : DeB w) :
    Calls Tryd.prog 22 #[.int .u32 (bv c), .int .i64 n] w fun e w' => e = .returned (.int .u32 (bv (Crc.moved n c))) ∧ Below w.heap.size w w' := by
  have HD := Lib.hid hD
  clear hD
  go_enter Tryd.func22, Tryd.ntmps22
  go_wp2_with fail
  go_loopw [9] (fun i wr => ∃ k : Nat, k ≤ 32 ∧ i = .int .i64 k ∧ Fill w wr w.heap.size 32 (regAt (pw 0)) k) (fun i _ => 32 - (intOf i).toNat)
  case atStart => exact ⟨0, by omega, rfl, Fill.start _ _ 32 rfl _⟩
  case round =>
    obtain ⟨k, hk, rfl, hF⟩ := hrel
    have HF := Lib.hid hF
    clear hF
    by_cases hlt : k < 32
    · obtain ⟨u, hu, hfz⟩ := HF.out.at hlt
      have hsh := shl_one k hlt
      go_wp2_with fail
      refine wp_region_tail_drew 7 (by kernel_rfl) (by kernel_rfl) ?_
      simp only [List.take_succ_cons, List.take_zero, List.drop_succ_cons, List.drop_zero]
      repeat (go_big_quiet_step ((go_at_call 23; exact (crc_step _ _).mono fun _ _ ⟨he, hw⟩ => ⟨he, _, hw.symm⟩)))
      refine wpQuiet_nil ?_
      intro w1 hw1
      obtain ⟨nq, rfl⟩ := hw1
      go_wp2_with fail
      go_roundw
      case rel => exact ⟨k + 1, by omega, by go_num, (HF.out.on (below_drewN _ _)).next hlt⟩
      case measure => simp [intOf]; omega
    · have HF : Hid (Fill w wr w.heap.size 32 (regAt (pw 0)) 32) := Lib.hid ((show k = 32 by omega) ▸ HF.out)
      have hge : (32 : Int) ≤ (k : Int) := by omega
      go_wp2_with fail
      obtain ⟨wo, rfl⟩ : ∃ wo : World, wo = wr := ⟨_, rfl⟩
      go_loopw [0, 1, 5] (fun r i m wr => ∃ (j k : Nat) (x : BitVec 32) (b : Nat), k ≤ n ∧ r = .int .u32 (bv x) ∧ i = .int .i64 k ∧ m = .pointer (some ⟨b, 0, none⟩) ∧ SqAt wr b (pw j) ∧ Crc.moved (2 ^ j * k) x = Crc.moved n c ∧ Below w.heap.size w wr) (fun _ i _ _ => (intOf i).toNat)
      case atStart => exact ⟨0, n, c, _, Nat.le_refl _, rfl, rfl, rfl, HF.out.cells, by simp, HF.out.below⟩
      case round =>
        obtain ⟨j, k, x, b, hk, rfl, rfl, rfl, hS, hm, hb⟩ := hrel
        have HS := Lib.hid hS
        have HM := Lib.hid hm
        have HB := Lib.hid hb
        clear hS hm hb
        by_cases h0 : k = 0
        · subst h0
          go_wp2_with fail
          go_ret
          exact ⟨ret_u32 (by simpa [Crc.moved] using HM.out), HB.out⟩
        · have hpos : (0 : Int) < (k : Int) := by omega
          by_cases hodd : k % 2 = 1
          · have hodd1 := odd_yes k (by omega) hodd
            have hmo := Lib.hid (moved_odd j k x hodd)
            clear hodd
            go_wp2_with fail
            refine (square_of b (pw j) x _ (HD.out.below HB.out) HS.out).mono ?_
            rintro e w' ⟨rfl, n1, rfl⟩
            go_wp2_with fail
            refine (square_twice b (pw j) _ ((HD.out.below HB.out).drewN _) (HS.out.drewN _)).mono ?_
            rintro e w2 ⟨b2, rfl, hS2, hB2⟩
            rw [pw_twice] at hS2
            go_wp2_with fail
            go_roundw
            case rel => exact ⟨j + 1, k / 2, _, b2, by omega, rfl, by go_num, rfl, hS2, by rw [hmo.out, HM.out], below_trans (below_trans HB.out (below_drewN _ _)) hB2⟩
            case measure => simp [intOf]; omega
          · have hev : k % 2 = 0 := by omega
            have hodd1 := odd_no k (by omega) hev
            have hmo := Lib.hid (moved_even j k x hev)
            clear hodd hev
            go_wp2_with fail
            refine (square_twice b (pw j) _ (HD.out.below HB.out) HS.out).mono ?_
            rintro e w2 ⟨b2, rfl, hS2, hB2⟩
            rw [pw_twice] at hS2
            go_wp2_with fail
            go_roundw
            case rel => exact ⟨j + 1, k / 2, _, b2, by omega, rfl, by go_num, rfl, hS2, by rw [hmo.out, HM.out], below_trans HB.out hB2⟩
            case measure => simp [intOf]; omega
end Go.Proofs.YtddepgacfeppfaaDoor

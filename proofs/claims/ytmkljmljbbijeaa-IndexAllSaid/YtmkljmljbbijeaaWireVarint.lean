/- The walks of the readings of a varint: the program's and the document's. -/
import Derived.Test.YtmkljmljbbijeaaPlainWire
import Derived.Test.YtmkljmljbbijeaaBytes
import Derived.OwnWalk
namespace Go.Proofs.Ytmkljmljbbijeaa
open Go.RowKit

theorem bv_wide (c : BitVec 8) : bv (c.setWidth 64) = bv c := by
  unfold bv; rw [BitVec.toNat_setWidth, Nat.mod_eq_of_lt (by have := c.isLt; omega)]
theorem wide_zero {c : BitVec 8} (h : c.setWidth 64 = 0#64) : c = 0#8 := by
  apply BitVec.eq_of_toNat_eq
  have h := congrArg BitVec.toNat h
  rwa [BitVec.toNat_setWidth, Nat.mod_eq_of_lt (by have := c.isLt; omega)] at h
theorem wrap_shl (x : BitVec 64) (j : Nat) : IntKind.u64.wrap (bv x * 2 ^ j) = bv (x <<< j) := by
  unfold bv
  rw [IntKind.wrap_u64, BitVec.toNat_shiftLeft, Nat.shiftLeft_eq, Int.natCast_emod, Int.natCast_mul, Int.natCast_pow]
  rfl
theorem wrap_shl63 (x : BitVec 64) : IntKind.u64.wrap (bv x * 9223372036854775808) = bv (x <<< 63) := wrap_shl x 63
attribute [go_sem] wrap_shl wrap_shl63

/-- The three results of a varint's reading. -/
def rvVal (r : BitVec 64 × Nat × Nat) : Value := .tuple #[.int .u64 (bv r.1), .int .i64 r.2.1, .int .i64 r.2.2]

set_option maxRecDepth 100000 in
theorem read_varint (ao : Option Addr) (bs : List (BitVec 8)) (cap : Nat) (w : World) (hb : BytesAt w ao bs) :
    Calls Try.prog 91 #[.slice ao bs.length cap] w fun e w' => e = .returned (rvVal (rv bs)) ∧ w = w' := by
  go_enter Try.func91, Try.ntmps91
  go_wp2_with fail
  go_loop [5, 6] (fun n i => ∃ k : Nat, k ≤ 9 ∧ k ≤ bs.length ∧ i = .int .i64 k ∧ ∃ m : BitVec 64, n = .int .u64 (bv m) ∧ RvAt bs k m) (fun _ i => 9 - (intOf i).toNat)
  case atStart => exact ⟨0, by omega, by omega, rfl, 0#64, rfl, RvAt.start bs⟩
  case round =>
    obtain ⟨k, hk9, hk, rfl, m, rfl, hR⟩ := hrel
    have HR := Lib.hid hR
    clear hR
    by_cases hlt : k < bs.length
    · obtain ⟨b, off, rfl, hc⟩ := hb k hlt
      have e1 : bv ((at8 bs k).setWidth 64) ≤ bv (at8 bs k) := Int.le_of_eq (bv_wide _)
      have e2 : bv (at8 bs k) ≤ bv ((at8 bs k).setWidth 64) := Int.le_of_eq (bv_wide _).symm
      by_cases h9 : k = 9 ∧ 1 < bv (at8 bs k)
      · obtain ⟨rfl, h1⟩ := h9
        go_wp2_with fail
        go_ret3
        exact ⟨by rw [HR.out.form hlt h1]; rfl, rfl⟩
      · have H9 := Lib.hid h9
        have h9' : k < 9 ∨ k = 9 ∧ bv (at8 bs k) ≤ 1 := by omega
        clear h9
        by_cases h128 : 128 ≤ bv (at8 bs k)
        · obtain ⟨hN, hk9'⟩ := HR.out.next hlt H9.out hk9 h128
          have HN := Lib.hid hN
          clear hN h9'
          go_wp2_with fail
          go_round
          case rel => exact ⟨k + 1, by omega, by omega, by go_num, _, rfl, HN.out⟩
          case measure => simp [intOf]; omega
        · by_cases h0 : 0 < k ∧ at8 bs k = 0#8
          · obtain ⟨h0, hz⟩ := h0
            have HZ := Lib.hid (HR.out.zero hlt h0 hz)
            have t1 : (at8 bs k == 0#8) = true := by simp [hz]
            have t2 : ((at8 bs k).setWidth 64 == 0#64) = true := by simp [hz]
            have t3 : bv (at8 bs k) ≤ 1 := by simp [hz, bv]
            clear hz
            rcases h9' with h9' | ⟨h9', hc1⟩
            · go_wp2_with fail
              all_goals go_ret3
              all_goals exact ⟨by rw [HZ.out]; rfl, rfl⟩
            · subst h9'
              go_wp2_with fail
              all_goals go_ret3
              all_goals exact ⟨by rw [HZ.out]; rfl, rfl⟩
          · have HD := Lib.hid (HR.out.done hlt H9.out (by omega) h0)
            by_cases hk0 : k = 0
            · subst hk0
              clear h0
              rw [Nat.add_zero] at hc
              go_wp2_with fail
              all_goals go_ret3
              all_goals exact ⟨by rw [HD.out]; simp [rvVal], rfl⟩
            · have hz : ¬ at8 bs k = 0#8 := fun h => h0 ⟨by omega, h⟩
              have t1 : (at8 bs k == 0#8) = false := by simp [hz]
              have t2 : ((at8 bs k).setWidth 64 == 0#64) = false := by rw [Bool.eq_false_iff]; intro h; simp at h; exact hz (wide_zero h)
              have k0 : 0 < k := by omega
              clear h0 hz hk0
              rcases h9' with h9' | ⟨h9', hc1⟩
              · go_wp2_with fail
                all_goals go_ret3
                all_goals exact ⟨by rw [HD.out]; rfl, rfl⟩
              · subst h9'
                go_wp2_with fail
                all_goals go_ret3
                all_goals exact ⟨by rw [HD.out]; rfl, rfl⟩
    · obtain rfl : k = bs.length := by omega
      go_wp2_with fail
      go_ret3
      exact ⟨by rw [HR.out.short]; rfl, rfl⟩

theorem wrap_mul (x y : BitVec 64) : IntKind.u64.wrap (bv x * bv y) = bv (x * y) := by
  unfold bv
  rw [IntKind.wrap_u64, BitVec.toNat_mul, Int.natCast_emod, Int.natCast_mul]
  rfl
theorem wrap_add (x y : BitVec 64) : IntKind.u64.wrap (bv x + bv y) = bv (x + y) := by
  unfold bv
  rw [IntKind.wrap_u64, BitVec.toNat_add, Int.natCast_emod, Int.natCast_add]
  rfl
theorem wrap_mul_128 (x : BitVec 64) : IntKind.u64.wrap (bv x * 128) = bv (x * 128#64) := wrap_mul x 128#64
attribute [go_sem] wrap_mul wrap_add wrap_mul_128

set_option maxRecDepth 100000 in
theorem ref_read_varint (ao : Option Addr) (bs : List (BitVec 8)) (cap : Nat) (w : World) (hb : BytesAt w ao bs) :
    Calls Try.prog 106 #[.slice ao bs.length cap] w fun e w' => e = .returned (rvVal (rv bs)) ∧ w = w' := by
  go_enter Try.func106, Try.ntmps106
  go_wp2_with fail
  go_loop [5, 6, 7] (fun n s i => ∃ k : Nat, k ≤ 9 ∧ k ≤ bs.length ∧ i = .int .i64 k ∧ s = .int .u64 (bv (1#64 <<< (7 * k))) ∧ ∃ m : BitVec 64, n = .int .u64 (bv m) ∧ RvAt bs k m) (fun _ _ i => 9 - (intOf i).toNat)
  case atStart => exact ⟨0, by omega, by omega, rfl, rfl, 0#64, rfl, RvAt.start bs⟩
  case round =>
    obtain ⟨k, hk9, hk, rfl, rfl, m, rfl, hR⟩ := hrel
    have HR := Lib.hid hR
    clear hR
    by_cases hlt : k < bs.length
    · obtain ⟨b, off, rfl, hc⟩ := hb k hlt
      have e1 : bv ((at8 bs k).setWidth 64) ≤ bv (at8 bs k) := Int.le_of_eq (bv_wide _)
      have e2 : bv (at8 bs k) ≤ bv ((at8 bs k).setWidth 64) := Int.le_of_eq (bv_wide _).symm
      by_cases h9 : k = 9 ∧ 1 < bv (at8 bs k)
      · obtain ⟨rfl, h1⟩ := h9
        go_wp2_with fail
        go_ret3
        exact ⟨by rw [HR.out.form hlt h1]; rfl, rfl⟩
      · have H9 := Lib.hid h9
        have HO := Lib.hid (or_add HR.out.2 hk9 h9)
        have HS := Lib.hid (scale_next k)
        have h9' : k < 9 ∨ k = 9 ∧ bv (at8 bs k) ≤ 1 := by omega
        clear h9
        by_cases h128 : 128 ≤ bv (at8 bs k)
        · obtain ⟨hN, hk9'⟩ := HR.out.next hlt H9.out hk9 h128
          have HN := Lib.hid hN
          clear hN h9'
          go_wp2_with fail
          go_round
          case rel => exact ⟨k + 1, by omega, by omega, by go_num, by rw [HS.out], _, rfl, by rw [HO.out]; exact HN.out⟩
          case measure => simp [intOf]; omega
        · by_cases h0 : 0 < k ∧ at8 bs k = 0#8
          · obtain ⟨h0, hz⟩ := h0
            have HZ := Lib.hid (HR.out.zero hlt h0 hz)
            have t1 : (at8 bs k == 0#8) = true := by simp [hz]
            have t2 : ((at8 bs k).setWidth 64 == 0#64) = true := by simp [hz]
            have t3 : bv (at8 bs k) ≤ 1 := by simp [hz, bv]
            clear hz
            rcases h9' with h9' | ⟨h9', hc1⟩
            · go_wp2_with fail
              all_goals go_ret3
              all_goals exact ⟨by rw [HZ.out]; rfl, rfl⟩
            · subst h9'
              go_wp2_with fail
              all_goals go_ret3
              all_goals exact ⟨by rw [HZ.out]; rfl, rfl⟩
          · have HD := Lib.hid (HR.out.done hlt H9.out (by omega) h0)
            by_cases hk0 : k = 0
            · subst hk0
              clear h0
              rw [Nat.add_zero] at hc
              go_wp2_with fail
              all_goals go_ret3
              all_goals exact ⟨by rw [HD.out, ← HO.out]; simp [rvVal], rfl⟩
            · have hz : ¬ at8 bs k = 0#8 := fun h => h0 ⟨by omega, h⟩
              have t1 : (at8 bs k == 0#8) = false := by simp [hz]
              have t2 : ((at8 bs k).setWidth 64 == 0#64) = false := by rw [Bool.eq_false_iff]; intro h; simp at h; exact hz (wide_zero h)
              have k0 : 0 < k := by omega
              clear h0 hz hk0
              rcases h9' with h9' | ⟨h9', hc1⟩
              · go_wp2_with fail
                all_goals go_ret3
                all_goals exact ⟨by rw [HD.out, ← HO.out]; rfl, rfl⟩
              · subst h9'
                go_wp2_with fail
                all_goals go_ret3
                all_goals exact ⟨by rw [HD.out, ← HO.out]; rfl, rfl⟩
    · obtain rfl : k = bs.length := by omega
      go_wp2_with fail
      go_ret3
      exact ⟨by rw [HR.out.short]; rfl, rfl⟩

theorem read_varint_to (ao : Option Addr) (bs : List (BitVec 8)) (n cap : Nat) (w : World) (t : Value) (hb : BytesAt w ao bs) (hn : bs.length = n) (ht : rvVal (rv bs) = t) :
    Calls Try.prog 91 #[.slice ao n cap] w fun e w' => e = .returned t ∧ w = w' := by
  subst hn ht; exact read_varint ao bs cap w hb
theorem ref_read_varint_to (ao : Option Addr) (bs : List (BitVec 8)) (n cap : Nat) (w : World) (t : Value) (hb : BytesAt w ao bs) (hn : bs.length = n) (ht : rvVal (rv bs) = t) :
    Calls Try.prog 106 #[.slice ao n cap] w fun e w' => e = .returned t ∧ w = w' := by
  subst hn ht; exact ref_read_varint ao bs cap w hb
end Go.Proofs.Ytmkljmljbbijeaa

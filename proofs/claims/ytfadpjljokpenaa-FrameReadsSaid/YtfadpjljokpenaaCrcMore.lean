/- The walks of crc.More and crc.Sum: the register over bytes, step by step for few, by the table for many. -/
import Derived.Test.YtfadpjljokpenaaCrcTable
namespace Go.Proofs.Ytfadpjljokpenaa
open Go.RowKit

theorem take_next (bs : List (BitVec 8)) (k : Nat) (h : k < bs.length) : bs.take (k + 1) = bs.take k ++ [at8 bs k] := by
  rw [at8_get h, List.take_succ_eq_append_getElem h]
theorem reg_next (c : BitVec 32) (bs : List (BitVec 8)) (k : Nat) (h : k < bs.length) : Crc.reg c (bs.take (k + 1)) = Crc.step (Crc.reg c (bs.take k) ^^^ (at8 bs k).setWidth 32) := by
  rw [take_next bs k h, Crc.reg_snoc]
theorem reg_all (c : BitVec 32) (bs : List (BitVec 8)) : Crc.reg c (bs.take bs.length) = Crc.reg c bs := by rw [List.take_length]
theorem more_ones (s : BitVec 32) (bs : List (BitVec 8)) : Crc.reg (s ^^^ 4294967295#32) bs ^^^ 4294967295#32 = Crc.more s bs := rfl

set_option maxRecDepth 100000 in
theorem crc_more_few (s : BitVec 32) (ao : Option Addr) (bs : List (BitVec 8)) (cap : Nat) (w : World) (hb : BytesAt w ao bs) (hl : bs.length < 32) :
    Calls Try.prog 94 #[.int .u32 (bv s), .slice ao bs.length cap] w fun e w' => e = .returned (.int .u32 (bv (Crc.more s bs))) ∧ w = w' := by
  have d1 : decide ((bs.length : Int) < 32) = true := by simp; omega
  go_enter Try.func94, Try.ntmps94
  go_wp2_with fail
  go_loop [5, 18] (fun c i => ∃ k : Nat, k ≤ bs.length ∧ i = .int .i64 k ∧ c = .int .u32 (bv (Crc.reg (s ^^^ 4294967295#32) (bs.take k)))) (fun _ i => bs.length - (intOf i).toNat)
  case atStart => exact ⟨0, by omega, rfl, rfl⟩
  case round =>
    obtain ⟨k, hk, rfl, rfl⟩ := hrel
    by_cases hlt : k < bs.length
    · obtain ⟨b, off, rfl, hc⟩ := hb k hlt
      have hn := Lib.hid (reg_next (s ^^^ 4294967295#32) bs k hlt)
      go_wp2_with fail
      refine (crc_step _ _).mono ?_
      rintro e w' ⟨rfl, rfl⟩
      go_wp2_with fail
      go_round
      case rel => exact ⟨k + 1, by omega, by go_num, by rw [hn.out]⟩
      case measure => simp [intOf]; omega
    · obtain rfl : k = bs.length := by omega
      go_wp2_with fail
      go_ret
      exact ⟨rfl, rfl⟩

/-- The table in block b. -/
def TabIn (w : World) (b : Nat) : Prop := ∀ i, i < 256 → w.cell? ⟨b, i, none⟩ = some (tabAt i)
theorem step_tab (c : BitVec 32) (x : BitVec 8) : Crc.step (BitVec.ofNat 32 (ix (c.setWidth 8 ^^^ x))) ^^^ c >>> 8 = Crc.step (c ^^^ x.setWidth 32) := by
  rw [Crc.step_byte]
  congr 2
  apply BitVec.eq_of_toNat_eq
  unfold ix
  rw [BitVec.toNat_ofNat, BitVec.toNat_setWidth]

set_option maxRecDepth 100000 in
theorem crc_more_many (s : BitVec 32) (ao : Option Addr) (bs : List (BitVec 8)) (cap : Nat) (w : World) (hb : BytesAt w ao bs) (hl : 32 ≤ bs.length) (hm : bs.length ≤ 140737488351232) :
    Calls Try.prog 94 #[.int .u32 (bv s), .slice ao bs.length cap] w fun e w' => e = .returned (.int .u32 (bv (Crc.more s bs))) ∧ Below w.heap.size w w' := by
  have d1 : decide ((bs.length : Int) < 32) = false := by simp; omega
  have hz := zero_table
  have hi : (Try.prog.info? 136).map (·.size) = some tab.toArray.size := tab_info
  go_enter Try.func94, Try.ntmps94
  go_wp2_with fail
  refine (crc_table _).mono ?_
  rintro e w1 ⟨rfl, hb1⟩
  have ht : (w1.alloc (.cells zeros256 136)).there w1.heap.size 0 tab.toArray.size := by
    have h1 := there_new w1 zeros256 136
    rw [tab_size, ← zeros256_size]; exact h1
  have HB : Hid (Below w.heap.size w ((w1.alloc (.cells zeros256 136)).setCells w1.heap.size 0 tab.toArray.toList)) :=
    below_setCells _ _ _ _ hb1.size (hb1.alloc hb1.size _)
  have HT : Hid (TabIn ((w1.alloc (.cells zeros256 136)).setCells w1.heap.size 0 tab.toArray.toList) w1.heap.size) := by
    intro i hi
    have hr := World.rangeAt_setCells_same (w1.alloc (.cells zeros256 136)) w1.heap.size 0 tab ht i (tabAt i) (tab_get hi)
    rwa [Nat.zero_add] at hr
  go_wp2_with (refine wpList_store_mid (op := ⟨none, _, _, _, _, _⟩) rfl 136 _ _ rfl w1.heap.size 0 tab.toArray rfl rfl ht hi (all_oneCell_toArray tab_one) ?_)
  generalize ((w1.alloc (.cells zeros256 136)).setCells w1.heap.size 0 tab.toArray.toList) = w2 at *
  have hb2 := hb.below HB.out
  clear hz hi ht hb1
  go_loop [5, 33] (fun c i => ∃ k : Nat, k ≤ bs.length ∧ i = .int .i64 k ∧ c = .int .u32 (bv (Crc.reg (s ^^^ 4294967295#32) (bs.take k)))) (fun _ i => bs.length - (intOf i).toNat)
  case atStart => exact ⟨0, by omega, rfl, rfl⟩
  case round =>
    obtain ⟨k, hk, rfl, rfl⟩ := hrel
    by_cases hlt : k < bs.length
    · obtain ⟨b, off, rfl, hc⟩ := hb2 k hlt
      have hn := Lib.hid (reg_next (s ^^^ 4294967295#32) bs k hlt)
      have hs := Lib.hid (step_tab (Crc.reg (s ^^^ 4294967295#32) (bs.take k)) (at8 bs k))
      have ht := HT.out (ix (BitVec.setWidth 8 (Crc.reg (s ^^^ 4294967295#32) (bs.take k)) ^^^ at8 bs k)) (ix_lt _)
      unfold tabAt at ht
      go_wp2_with fail
      go_round
      case rel => exact ⟨k + 1, by omega, by go_num, by rw [hn.out, hs.out]⟩
      case measure => simp [intOf]; omega
    · obtain rfl : k = bs.length := by omega
      go_wp2_with fail
      go_ret
      exact ⟨rfl, HB.out⟩
end Go.Proofs.Ytfadpjljokpenaa

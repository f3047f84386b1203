/- The walks of crc.step and of the reference's step: eight steps of the register. -/
import Derived.Test.YtmkljmljbbijeaaChecked
import Derived.Test.YtmkljmljbbijeaaBits
import Derived.Test.YtmkljmljbbijeaaPlainCrc
import Derived.WalkKit
import Derived.WalkSpells
import Derived.WalkLawsBesides
import Derived.Lib.Hide
namespace Go.Proofs.Ytmkljmljbbijeaa
open Go.RowKit

theorem ret_u32 {a b : BitVec 32} (h : a = b) : Ending.returned (.int .u32 (bv a)) = .returned (.int .u32 (bv b)) := by rw [h]
theorem bit_yes {x : BitVec 32} (h : (x &&& 1#32 == 1#32) = true) : (x >>> 1) ^^^ 2197175160#32 = Crc.bit x := by unfold Crc.bit; rw [if_pos h]
theorem bit_no {x : BitVec 32} (h : (x &&& 1#32 == 1#32) = false) : x >>> 1 = Crc.bit x := by unfold Crc.bit; rw [if_neg (by simp [h])]

theorem crc_step (c : BitVec 32) (w : World) :
    Calls Try.prog 120 #[.int .u32 (bv c)] w fun e w' => e = .returned (.int .u32 (bv (Crc.step c))) ∧ w = w' := by
  go_enter Try.func120, Try.ntmps120
  go_wp2
  go_loop [0, 3, 4] (fun c' _ k => ∃ j : Nat, j ≤ 8 ∧ k = .int .i64 j ∧ c' = .int .u32 (bv (Crc.bitsN j c))) (fun _ _ k => 8 - (intOf k).toNat)
  case atStart => exact ⟨0, by omega, rfl, rfl⟩
  case round =>
    obtain ⟨j, hj, rfl, rfl⟩ := hrel
    have hs := Lib.hid (Crc.bitsN_succ j c)
    go_wp2
    · go_round
      case rel =>
        refine ⟨j + 1, by omega, by go_num, ?_⟩
        rw [hs.out, bit_yes (by assumption)]
      case measure => simp [intOf]; omega
    · go_round
      case rel =>
        refine ⟨j + 1, by omega, by go_num, ?_⟩
        rw [hs.out, bit_no (by assumption)]
      case measure => simp [intOf]; omega
    · go_ret
      obtain rfl : j = 8 := by omega
      exact ⟨rfl, rfl⟩
theorem crc_step_of (n : Int) (c : BitVec 32) (w : World) (h : n = bv c) :
    Calls Try.prog 120 #[.int .u32 n] w fun e w' => e = .returned (.int .u32 (bv (Crc.step c))) ∧ w = w' := by
  subst h; exact crc_step c w
end Go.Proofs.Ytmkljmljbbijeaa

/-! The walk of crc.table: what eight steps make of each byte. -/
namespace Go.Proofs.Ytmkljmljbbijeaa
open Go.RowKit

/-- 256 registers 0. -/
def zeros256 : Array Value := (List.replicate 256 (.int .u32 0)).toArray
theorem zeros256_size : zeros256.size = 256 := by unfold zeros256; rw [List.size_toArray, List.length_replicate]
theorem zero_table (w : World) : (zeroValue 152).run Try.prog w = .ok (.agg zeros256) w := by kernel_rfl
/-- The table. -/
def tabAt (i : Nat) : Value := .int .u32 (bv (Crc.step (BitVec.ofNat 32 i)))
def tab : List Value := (List.range 256).map tabAt
theorem tab_length : tab.length = 256 := by simp [tab]
theorem tab_size : tab.toArray.size = 256 := tab_length
theorem tab_get {i : Nat} (h : i < 256) : tab[i]? = some (tabAt i) := by simp [tab, h]
theorem tab_one : ∀ v ∈ tab, v.oneCell' = true := by
  intro v hv
  obtain ⟨i, _, rfl⟩ := List.mem_map.1 hv
  rfl
theorem tab_info : (Try.prog.info? 152).map (·.size) = some tab.length := by rw [tab_length]; kernel_rfl

/-- What stands behind k rounds: the first k registers of the table in block b, which is the call's own. -/
def TabRows (w wr : World) (k : Nat) : Prop :=
  Below w.heap.size w wr ∧ wr.there w.heap.size 0 256 ∧ wr.there (w.heap.size + 1) 0 256 ∧ w.heap.size + 1 < wr.heap.size ∧ ∀ i, i < k → wr.cell? ⟨w.heap.size + 1, i, none⟩ = some (tabAt i)

theorem TabRows.start (w : World) : TabRows w ((w.alloc (.cells zeros256 152)).alloc (.cells zeros256 152)) 0 := by
  have h1 := there_new w zeros256 152
  have h2 := there_new (w.alloc (.cells zeros256 152)) zeros256 152
  rw [zeros256_size] at h1 h2
  rw [show (w.alloc (.cells zeros256 152)).heap.size = w.heap.size + 1 from by simp] at h2
  exact ⟨((Below.refl _ _).alloc (Nat.le_refl _) _).alloc (by simp) _, World.there_alloc h1 _, h2, by simp, fun i hi => by omega⟩
theorem TabRows.next {w wr : World} {k : Nat} (h : TabRows w wr k) (hk : k < 256) : TabRows w (wr.setCell ⟨w.heap.size + 1, k, none⟩ (tabAt k)) (k + 1) := by
  obtain ⟨hb, h0, h1, hs, hc⟩ := h
  refine ⟨hb.setCell (by simp) _, there_setCell h0 _ _, there_setCell h1 _ _, by simpa [World.setCell] using hs, fun i hi => ?_⟩
  by_cases e : i = k
  · subst e
    obtain ⟨u, hu⟩ := Option.isSome_iff_exists.1 (h1 i hk).1
    rw [Nat.zero_add] at hu
    exact World.cell?_setCell_same _ _ _ hu
  · rw [World.cell?_setCell_other _ _ _ _ (by intro h; injection h; omega)]
    exact hc i (by omega)

set_option maxRecDepth 100000 in
theorem crc_table (w : World) :
    Calls Try.prog 121 #[] w fun e w' => e = .returned (.agg tab.toArray) ∧ Below w.heap.size w w' := by
  have hz := zero_table
  go_enter Try.func121, Try.ntmps121
  go_wp2_with fail
  clear hz
  go_loopw [3] (fun i wr => ∃ k : Nat, k ≤ 256 ∧ i = .int .i64 k ∧ TabRows w wr k) (fun i _ => 256 - (intOf i).toNat)
  case atStart => exact ⟨0, by omega, rfl, TabRows.start w⟩
  case round =>
    obtain ⟨k, hk, rfl, hT⟩ := hrel
    by_cases hlt : k < 256
    · obtain ⟨u, hu⟩ := Option.isSome_iff_exists.1 (hT.2.2.1 k hlt).1
      have hf := (hT.2.2.1 k hlt).2
      rw [Nat.zero_add] at hu hf
      have hbv := Lib.hid (bv_ofNat (n := 32) (k := k) (by omega))
      have HT := Lib.hid hT
      clear hT
      go_wp2_with fail
      refine (crc_step_of _ _ _ hbv.out.symm).mono ?_
      rintro e w' ⟨rfl, rfl⟩
      go_wp2_with fail
      go_roundw
      case rel => exact ⟨k + 1, by omega, by go_num, HT.out.next hlt⟩
      case measure => simp [intOf]; omega
    · obtain rfl : k = 256 := by omega
      obtain ⟨hb, h0, h1, hs, hc⟩ := hT
      have hc' := Lib.hid hc
      clear hc
      have hr : wr.rangeAt (w.heap.size + 1) 0 tab := fun j v hv => by
        have hj : j < 256 := by have := (List.getElem?_eq_some_iff.1 hv).1; rwa [tab_length] at this
        rw [Nat.zero_add, hc'.out j hj, ← tab_get hj]; exact hv
      have ht : wr.there w.heap.size 0 tab.toArray.size := by rw [tab_size]; exact h0
      have hi : (Try.prog.info? 152).map (·.size) = some tab.toArray.size := tab_info
      go_wp2_with (first
        | refine wpList_load_mid rfl 152 _ rfl (w.heap.size + 1) 0 rfl tab _ hr Try.underlying152 rfl tab_info ?_
        | refine wpList_store_mid rfl 152 _ _ rfl w.heap.size 0 tab.toArray rfl rfl ht hi (all_oneCell_toArray tab_one) ?_)
      refine bodyPost_ret (results_cell_mid rfl _ _ w.heap.size 0 tab _ rfl ?_ Try.underlying152 rfl tab_info) rfl ⟨rfl, ?_⟩
      · exact World.rangeAt_setCells_same wr _ _ _ (by rw [tab_length]; exact h0)
      · exact below_setCells _ _ _ _ (Nat.le_refl _) hb
end Go.Proofs.Ytmkljmljbbijeaa

/-! The walks of crc.More and crc.Sum: the register over bytes, step by step for few, by the table for many. -/
namespace Go.Proofs.Ytmkljmljbbijeaa
open Go.RowKit

theorem take_next (bs : List (BitVec 8)) (k : Nat) (h : k < bs.length) : bs.take (k + 1) = bs.take k ++ [at8 bs k] := by
  rw [at8_get h, List.take_succ_eq_append_getElem h]
theorem reg_next (c : BitVec 32) (bs : List (BitVec 8)) (k : Nat) (h : k < bs.length) : Crc.reg c (bs.take (k + 1)) = Crc.step (Crc.reg c (bs.take k) ^^^ (at8 bs k).setWidth 32) := by
  rw [take_next bs k h, Crc.reg_snoc]
theorem reg_all (c : BitVec 32) (bs : List (BitVec 8)) : Crc.reg c (bs.take bs.length) = Crc.reg c bs := by rw [List.take_length]
theorem more_ones (s : BitVec 32) (bs : List (BitVec 8)) : Crc.reg (s ^^^ 4294967295#32) bs ^^^ 4294967295#32 = Crc.more s bs := rfl

set_option maxRecDepth 100000 in
theorem crc_more_few (s : BitVec 32) (ao : Option Addr) (bs : List (BitVec 8)) (cap : Nat) (w : World) (hb : BytesAt w ao bs) (hl : bs.length < 32) :
    Calls Try.prog 100 #[.int .u32 (bv s), .slice ao bs.length cap] w fun e w' => e = .returned (.int .u32 (bv (Crc.more s bs))) ∧ w = w' := by
  have d1 : decide ((bs.length : Int) < 32) = true := by simp; omega
  go_enter Try.func100, Try.ntmps100
  go_wp2_with fail
  go_loop [5, 18] (fun c i => ∃ k : Nat, k ≤ bs.length ∧ i = .int .i64 k ∧ c = .int .u32 (bv (Crc.reg (s ^^^ 4294967295#32) (bs.take k)))) (fun _ i => bs.length - (intOf i).toNat)
  case atStart => exact ⟨0, by omega, rfl, rfl⟩
  case round =>
    obtain ⟨k, hk, rfl, rfl⟩ := hrel
    by_cases hlt : k < bs.length
    · obtain ⟨b, off, rfl, hc⟩ := hb k hlt
      have hn := Lib.hid (reg_next (s ^^^ 4294967295#32) bs k hlt)
      go_wp2_with fail
      refine (crc_step _ _).mono ?_
      rintro e w' ⟨rfl, rfl⟩
      go_wp2_with fail
      go_round
      case rel => exact ⟨k + 1, by omega, by go_num, by rw [hn.out]⟩
      case measure => simp [intOf]; omega
    · obtain rfl : k = bs.length := by omega
      go_wp2_with fail
      go_ret
      exact ⟨rfl, rfl⟩

/-- The table in block b. -/
def TabIn (w : World) (b : Nat) : Prop := ∀ i, i < 256 → w.cell? ⟨b, i, none⟩ = some (tabAt i)
theorem step_tab (c : BitVec 32) (x : BitVec 8) : Crc.step (BitVec.ofNat 32 (ix (c.setWidth 8 ^^^ x))) ^^^ c >>> 8 = Crc.step (c ^^^ x.setWidth 32) := by
  rw [Crc.step_byte]
  congr 2
  apply BitVec.eq_of_toNat_eq
  unfold ix
  rw [BitVec.toNat_ofNat, BitVec.toNat_setWidth]

set_option maxRecDepth 100000 in
theorem crc_more_many (s : BitVec 32) (ao : Option Addr) (bs : List (BitVec 8)) (cap : Nat) (w : World) (hb : BytesAt w ao bs) (hl : 32 ≤ bs.length) (hm : bs.length ≤ 140737488351232) :
    Calls Try.prog 100 #[.int .u32 (bv s), .slice ao bs.length cap] w fun e w' => e = .returned (.int .u32 (bv (Crc.more s bs))) ∧ Below w.heap.size w w' := by
  have d1 : decide ((bs.length : Int) < 32) = false := by simp; omega
  have hz := zero_table
  have hi : (Try.prog.info? 152).map (·.size) = some tab.toArray.size := tab_info
  go_enter Try.func100, Try.ntmps100
  go_wp2_with fail
  refine (crc_table _).mono ?_
  rintro e w1 ⟨rfl, hb1⟩
  have ht : (w1.alloc (.cells zeros256 152)).there w1.heap.size 0 tab.toArray.size := by
    have h1 := there_new w1 zeros256 152
    rw [tab_size, ← zeros256_size]; exact h1
  have HB : Hid (Below w.heap.size w ((w1.alloc (.cells zeros256 152)).setCells w1.heap.size 0 tab.toArray.toList)) :=
    below_setCells _ _ _ _ hb1.size (hb1.alloc hb1.size _)
  have HT : Hid (TabIn ((w1.alloc (.cells zeros256 152)).setCells w1.heap.size 0 tab.toArray.toList) w1.heap.size) := by
    intro i hi
    have hr := World.rangeAt_setCells_same (w1.alloc (.cells zeros256 152)) w1.heap.size 0 tab ht i (tabAt i) (tab_get hi)
    rwa [Nat.zero_add] at hr
  go_wp2_with (refine wpList_store_mid (op := ⟨none, _, _, _, _, _⟩) rfl 152 _ _ rfl w1.heap.size 0 tab.toArray rfl rfl ht hi (all_oneCell_toArray tab_one) ?_)
  generalize ((w1.alloc (.cells zeros256 152)).setCells w1.heap.size 0 tab.toArray.toList) = w2 at *
  have hb2 := hb.below HB.out
  clear hz hi ht hb1
  go_loop [5, 33] (fun c i => ∃ k : Nat, k ≤ bs.length ∧ i = .int .i64 k ∧ c = .int .u32 (bv (Crc.reg (s ^^^ 4294967295#32) (bs.take k)))) (fun _ i => bs.length - (intOf i).toNat)
  case atStart => exact ⟨0, by omega, rfl, rfl⟩
  case round =>
    obtain ⟨k, hk, rfl, rfl⟩ := hrel
    by_cases hlt : k < bs.length
    · obtain ⟨b, off, rfl, hc⟩ := hb2 k hlt
      have hn := Lib.hid (reg_next (s ^^^ 4294967295#32) bs k hlt)
      have hs := Lib.hid (step_tab (Crc.reg (s ^^^ 4294967295#32) (bs.take k)) (at8 bs k))
      have ht := HT.out (ix (BitVec.setWidth 8 (Crc.reg (s ^^^ 4294967295#32) (bs.take k)) ^^^ at8 bs k)) (ix_lt _)
      unfold tabAt at ht
      go_wp2_with fail
      go_round
      case rel => exact ⟨k + 1, by omega, by go_num, by rw [hn.out, hs.out]⟩
      case measure => simp [intOf]; omega
    · obtain rfl : k = bs.length := by omega
      go_wp2_with fail
      go_ret
      exact ⟨rfl, HB.out⟩
end Go.Proofs.Ytmkljmljbbijeaa

/-! The walks of the reference's step, More, Sum; crc.More and crc.Sum at whatever length. -/
namespace Go.Proofs.Ytmkljmljbbijeaa
open Go.RowKit

theorem ref_step (c : BitVec 32) (w : World) :
    Calls Try.prog 122 #[.int .u32 (bv c)] w fun e w' => e = .returned (.int .u32 (bv (Crc.step c))) ∧ w = w' := by
  go_enter Try.func122, Try.ntmps122
  go_wp2
  go_loop [0, 3] (fun c' k => ∃ j : Nat, j ≤ 8 ∧ k = .int .i64 j ∧ c' = .int .u32 (bv (Crc.bitsN j c))) (fun _ k => 8 - (intOf k).toNat)
  case atStart => exact ⟨0, by omega, rfl, rfl⟩
  case round =>
    obtain ⟨j, hj, rfl, rfl⟩ := hrel
    have hs := Lib.hid (Crc.bitsN_succ j c)
    go_wp2
    · go_round
      case rel =>
        refine ⟨j + 1, by omega, by go_num, ?_⟩
        rw [hs.out, bit_yes (by assumption)]
      case measure => simp [intOf]; omega
    · go_round
      case rel =>
        refine ⟨j + 1, by omega, by go_num, ?_⟩
        rw [hs.out, bit_no (by assumption)]
      case measure => simp [intOf]; omega
    · go_ret
      obtain rfl : j = 8 := by omega
      exact ⟨rfl, rfl⟩

set_option maxRecDepth 100000 in
theorem ref_more (s : BitVec 32) (ao : Option Addr) (bs : List (BitVec 8)) (cap : Nat) (w : World) (hb : BytesAt w ao bs) (hm : bs.length ≤ 140737488351232) :
    Calls Try.prog 101 #[.int .u32 (bv s), .slice ao bs.length cap] w fun e w' => e = .returned (.int .u32 (bv (Crc.more s bs))) ∧ w = w' := by
  go_enter Try.func101, Try.ntmps101
  go_wp2_with fail
  go_loop [5, 6] (fun c i => ∃ k : Nat, k ≤ bs.length ∧ i = .int .i64 k ∧ c = .int .u32 (bv (Crc.reg (s ^^^ 4294967295#32) (bs.take k)))) (fun _ i => bs.length - (intOf i).toNat)
  case atStart => exact ⟨0, by omega, rfl, rfl⟩
  case round =>
    obtain ⟨k, hk, rfl, rfl⟩ := hrel
    by_cases hlt : k < bs.length
    · obtain ⟨b, off, rfl, hc⟩ := hb k hlt
      have hn := Lib.hid (reg_next (s ^^^ 4294967295#32) bs k hlt)
      go_wp2_with fail
      refine (ref_step _ _).mono ?_
      rintro e w' ⟨rfl, rfl⟩
      go_wp2_with fail
      go_round
      case rel => exact ⟨k + 1, by omega, by go_num, by rw [hn.out]⟩
      case measure => simp [intOf]; omega
    · obtain rfl : k = bs.length := by omega
      go_wp2_with fail
      go_ret
      exact ⟨rfl, rfl⟩

theorem ref_sum (ao : Option Addr) (bs : List (BitVec 8)) (cap : Nat) (w : World) (hb : BytesAt w ao bs) (hm : bs.length ≤ 140737488351232) :
    Calls Try.prog 74 #[.slice ao bs.length cap] w fun e w' => e = .returned (.int .u32 (bv (Crc.sum bs))) ∧ w = w' := by
  go_enter Try.func74, Try.ntmps74
  go_wp2_with fail
  refine (ref_more 0#32 _ _ _ _ hb hm).mono ?_
  rintro e w' ⟨rfl, rfl⟩
  go_wp2_with fail
  go_ret
  exact ⟨rfl, rfl⟩

theorem crc_more (s : BitVec 32) (ao : Option Addr) (bs : List (BitVec 8)) (cap : Nat) (w : World) (hb : BytesAt w ao bs) (hm : bs.length ≤ 140737488351232) :
    Calls Try.prog 100 #[.int .u32 (bv s), .slice ao bs.length cap] w fun e w' => e = .returned (.int .u32 (bv (Crc.more s bs))) ∧ Below w.heap.size w w' := by
  by_cases h : bs.length < 32
  · exact (crc_more_few s ao bs cap w hb h).mono fun e w' ⟨he, hw⟩ => ⟨he, hw ▸ Below.refl _ _⟩
  · exact crc_more_many s ao bs cap w hb (by omega) hm
theorem crc_more_of (s : BitVec 32) (ao : Option Addr) (n : Nat) (bs : List (BitVec 8)) (cap : Nat) (w : World) (hn : bs.length = n) (hb : BytesAt w ao bs) (hm : bs.length ≤ 140737488351232) :
    Calls Try.prog 100 #[.int .u32 (bv s), .slice ao n cap] w fun e w' => e = .returned (.int .u32 (bv (Crc.more s bs))) ∧ Below w.heap.size w w' := by
  subst hn; exact crc_more s ao bs cap w hb hm
theorem crc_sum (ao : Option Addr) (bs : List (BitVec 8)) (cap : Nat) (w : World) (hb : BytesAt w ao bs) (hm : bs.length ≤ 140737488351232) :
    Calls Try.prog 73 #[.slice ao bs.length cap] w fun e w' => e = .returned (.int .u32 (bv (Crc.sum bs))) ∧ Below w.heap.size w w' := by
  go_enter Try.func73, Try.ntmps73
  go_wp2_with fail
  refine (crc_more 0#32 _ _ _ _ hb hm).mono ?_
  rintro e w' ⟨rfl, hw⟩
  go_wp2_with fail
  go_ret
  exact ⟨rfl, hw⟩
end Go.Proofs.Ytmkljmljbbijeaa

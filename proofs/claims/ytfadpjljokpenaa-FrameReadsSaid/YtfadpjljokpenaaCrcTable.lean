/- The walk of crc.table: what eight steps make of each byte. -/
import Derived.Test.YtfadpjljokpenaaCrcStep
import Derived.Test.YtfadpjljokpenaaMem
namespace Go.Proofs.Ytfadpjljokpenaa
open Go.RowKit

/-- 256 registers 0. -/
def zeros256 : Array Value := (List.replicate 256 (.int .u32 0)).toArray
theorem zeros256_size : zeros256.size = 256 := by unfold zeros256; rw [List.size_toArray, List.length_replicate]
theorem zero_table (w : World) : (zeroValue 136).run Try.prog w = .ok (.agg zeros256) w := by kernel_rfl
/-- The table. -/
def tabAt (i : Nat) : Value := .int .u32 (bv (Crc.step (BitVec.ofNat 32 i)))
def tab : List Value := (List.range 256).map tabAt
theorem tab_length : tab.length = 256 := by simp [tab]
theorem tab_size : tab.toArray.size = 256 := tab_length
theorem tab_get {i : Nat} (h : i < 256) : tab[i]? = some (tabAt i) := by simp [tab, h]
theorem tab_one : ∀ v ∈ tab, v.oneCell' = true := by
  intro v hv
  obtain ⟨i, _, rfl⟩ := List.mem_map.1 hv
  rfl
theorem tab_info : (Try.prog.info? 136).map (·.size) = some tab.length := by rw [tab_length]; kernel_rfl

/-- What stands behind k rounds: the first k registers of the table in block b, which is the call's own. -/
def TabRows (w wr : World) (k : Nat) : Prop :=
  Below w.heap.size w wr ∧ wr.there w.heap.size 0 256 ∧ wr.there (w.heap.size + 1) 0 256 ∧ w.heap.size + 1 < wr.heap.size ∧ ∀ i, i < k → wr.cell? ⟨w.heap.size + 1, i, none⟩ = some (tabAt i)

theorem TabRows.start (w : World) : TabRows w ((w.alloc (.cells zeros256 136)).alloc (.cells zeros256 136)) 0 := by
  have h1 := there_new w zeros256 136
  have h2 := there_new (w.alloc (.cells zeros256 136)) zeros256 136
  rw [zeros256_size] at h1 h2
  rw [show (w.alloc (.cells zeros256 136)).heap.size = w.heap.size + 1 from by simp] at h2
  exact ⟨((Below.refl _ _).alloc (Nat.le_refl _) _).alloc (by simp) _, World.there_alloc h1 _, h2, by simp, fun i hi => by omega⟩
theorem TabRows.next {w wr : World} {k : Nat} (h : TabRows w wr k) (hk : k < 256) : TabRows w (wr.setCell ⟨w.heap.size + 1, k, none⟩ (tabAt k)) (k + 1) := by
  obtain ⟨hb, h0, h1, hs, hc⟩ := h
  refine ⟨hb.setCell (by simp) _, there_setCell h0 _ _, there_setCell h1 _ _, by simpa [World.setCell] using hs, fun i hi => ?_⟩
  by_cases e : i = k
  · subst e
    obtain ⟨u, hu⟩ := Option.isSome_iff_exists.1 (h1 i hk).1
    rw [Nat.zero_add] at hu
    exact World.cell?_setCell_same _ _ _ hu
  · rw [World.cell?_setCell_other _ _ _ _ (by intro h; injection h; omega)]
    exact hc i (by omega)

set_option maxRecDepth 100000 in
theorem crc_table (w : World) :
    Calls Try.prog 103 #[] w fun e w' => e = .returned (.agg tab.toArray) ∧ Below w.heap.size w w' := by
  have hz := zero_table
  go_enter Try.func103, Try.ntmps103
  go_wp2_with fail
  clear hz
  go_loopw [3] (fun i wr => ∃ k : Nat, k ≤ 256 ∧ i = .int .i64 k ∧ TabRows w wr k) (fun i _ => 256 - (intOf i).toNat)
  case atStart => exact ⟨0, by omega, rfl, TabRows.start w⟩
  case round =>
    obtain ⟨k, hk, rfl, hT⟩ := hrel
    by_cases hlt : k < 256
    · obtain ⟨u, hu⟩ := Option.isSome_iff_exists.1 (hT.2.2.1 k hlt).1
      have hf := (hT.2.2.1 k hlt).2
      rw [Nat.zero_add] at hu hf
      have hbv := Lib.hid (bv_ofNat (n := 32) (k := k) (by omega))
      have HT := Lib.hid hT
      clear hT
      go_wp2_with fail
      refine (crc_step_of _ _ _ hbv.out.symm).mono ?_
      rintro e w' ⟨rfl, rfl⟩
      go_wp2_with fail
      go_roundw
      case rel => exact ⟨k + 1, by omega, by go_num, HT.out.next hlt⟩
      case measure => simp [intOf]; omega
    · obtain rfl : k = 256 := by omega
      obtain ⟨hb, h0, h1, hs, hc⟩ := hT
      have hc' := Lib.hid hc
      clear hc
      have hr : wr.rangeAt (w.heap.size + 1) 0 tab := fun j v hv => by
        have hj : j < 256 := by have := (List.getElem?_eq_some_iff.1 hv).1; rwa [tab_length] at this
        rw [Nat.zero_add, hc'.out j hj, ← tab_get hj]; exact hv
      have ht : wr.there w.heap.size 0 tab.toArray.size := by rw [tab_size]; exact h0
      have hi : (Try.prog.info? 136).map (·.size) = some tab.toArray.size := tab_info
      go_wp2_with (first
        | refine wpList_load_mid rfl 136 _ rfl (w.heap.size + 1) 0 rfl tab _ hr Try.underlying136 rfl tab_info ?_
        | refine wpList_store_mid rfl 136 _ _ rfl w.heap.size 0 tab.toArray rfl rfl ht hi (all_oneCell_toArray tab_one) ?_)
      refine bodyPost_ret (results_cell_mid rfl _ _ w.heap.size 0 tab _ rfl ?_ Try.underlying136 rfl tab_info) rfl ⟨rfl, ?_⟩
      · exact World.rangeAt_setCells_same wr _ _ _ (by rw [tab_length]; exact h0)
      · exact below_setCells _ _ _ _ (Nat.le_refl _) hb
end Go.Proofs.Ytfadpjljokpenaa

/- The walk of flumelaw2's CrcZeros. -/
import Derived.Test.YtddepgacfeppfaaDoorCrcBegun
import Derived.Test.YtddepgacfeppfaaDoorFrame
import Derived.Deep.OwnRows
import Derived.Deep.RegionWith
namespace Go.Proofs.YtddepgacfeppfaaDoor
open Go.RowKit Go.Deep

/-- n bytes 0, just made. -/
theorem bytes_made (w : World) (n : Nat) : BytesAt (w.alloc (.cells (madeCells #[.int .u8 0] n) 5)) (some ⟨w.heap.size, 0, none⟩) (List.replicate n 0#8) := by
  have e : madeCells #[.int .u8 0] n = (bvals (List.replicate n 0#8)).toArray := by
    apply Array.toList_inj.1
    rw [toList_madeCells_one]
    simp only [bvals, List.map_replicate]
    rfl
  rw [e]; exact bytes_new w _ _ _

set_option maxRecDepth 100000 in
theorem zeros_early (s : BitVec 32) (n m : Int) (w : World) (hD : DeB w) (h : n < 0 ∨ m < 0 ∨ 2305843009213693952 < n ∨ 2305843009213693952 < m) :
    Calls Tryd.prog 5 #[.int .u32 (bv s), .int .i64 n, .int .i64 m] w (TrueBelow w) := by
  have HD := Lib.hid hD
  clear hD
  have hc : n < 0 ∨ (0 ≤ n ∧ m < 0) ∨ (0 ≤ n ∧ 0 ≤ m ∧ 2305843009213693952 < n) ∨ (0 ≤ n ∧ 0 ≤ m ∧ n ≤ 2305843009213693952 ∧ 2305843009213693952 < m) := by omega
  clear h
  rcases hc with h1 | ⟨h1, h2⟩ | ⟨h1, h2, h3⟩ | ⟨h1, h2, h3, h4⟩
  all_goals
    go_enter Tryd.func5, Tryd.ntmps5
    go_wp2_with fail
    refine (crc_begun _ HD.out).mono ?_
    rintro e w1 ⟨rfl, hb⟩
    have H1 := Lib.hid hb
    clear hb
    go_wp2_with fail
    go_ret
    exact ⟨rfl, H1.out⟩

set_option maxRecDepth 100000 in
theorem zeros_walk (s : BitVec 32) (n m : Nat) (w : World) (hD : DeB w) (h1 : n ≤ 2305843009213693952) (h2 : m ≤ 2305843009213693952) :
    Calls Tryd.prog 5 #[.int .u32 (bv s), .int .i64 n, .int .i64 m] w (TrueBelow w) := by
  have HD := Lib.hid hD
  clear hD
  have t1 : (Crc.zeros (Crc.zeros s n) m != Crc.zeros s (n + m)) = false := by rw [Crc.zeros_zeros]; simp
  have hmk : n ≤ 4000 → ∀ w, (Instr.makeSlice 22 (.int .i64 (n : Int)) (.int .i64 (n : Int))).run Tryd.prog w = .ok (.slice (some ⟨w.heap.size, 0, none⟩) n n) (w.alloc (.cells (madeCells #[.int .u8 0] n) 5)) :=
    fun h w => run_make_row' 22 5 (.int .u8 0) 1 Tryd.underlying22 Tryd.infoByte rfl .i64 .i64 n (by omega) (by omega) w
  have t2 : (Crc.zeros s n == Crc.more s (List.replicate n 0#8)) = true := by rw [Crc.zeros_more]; simp
  have HM := Lib.hid hmk
  have hle : (List.replicate n 0#8).length = n := by simp
  have HL := Lib.hid hle
  clear hmk hle
  go_enter Tryd.func5, Tryd.ntmps5
  go_wp2_with fail
  refine (crc_begun _ HD.out).mono ?_
  rintro e w1 ⟨rfl, hb⟩
  have H1 := Lib.hid hb
  clear hb
  go_wp2_with fail
  refine (crc_zeros s n _ (by omega) (HD.out.below H1.out)).mono ?_
  rintro e w2 ⟨rfl, hb⟩
  have H2 := Lib.hid (below_trans H1.out hb)
  clear hb
  go_wp2_with fail
  refine (crc_zeros (Crc.zeros s n) m _ (by omega) (HD.out.below H2.out)).mono ?_
  rintro e w3 ⟨rfl, hb⟩
  have H3 := Lib.hid (below_trans H2.out hb)
  clear hb
  go_wp2_with fail
  rw [show (n : Int) + (m : Int) = ((n + m : Nat) : Int) from by omega]
  refine (crc_zeros s (n + m) _ (by omega) (HD.out.below H3.out)).mono ?_
  rintro e w4 ⟨rfl, hb⟩
  have H4 := Lib.hid (below_trans H3.out hb)
  clear hb
  by_cases hn : 4000 < n
  · have hn' : (4000 : Int) < (n : Int) := by omega
    go_wp2_with fail
    go_ret
    exact ⟨rfl, H4.out⟩
  · have hmk := HM.out (by omega)
    have hn' : (n : Int) ≤ 4000 := by omega
    have hD4 := HD.out.below H4.out
    have HD4 := Lib.hid hD4
    clear hD4
    go_wp2_with fail
    go_region_with (first
      | (go_at_call 11; refine (crc_zeros s n _ (by omega) ?hD).mono ?_; (case hD => (first | exact HD4.out | exact DeB.drewN (HD4.out.below (below_alloc _ _)) 1)); rintro e w5 ⟨rfl, hb5⟩)
      | (go_at_call 10; refine (crc_more_of s _ n (List.replicate n 0#8) n _ HL.out ?hB (by rw [HL.out]; omega)).mono ?_; (case hB => (first | exact bytes_made _ _ | exact BytesAt.below (BytesAt.drew (bytes_made _ _)) hb5)); rintro e w6 ⟨rfl, hb6⟩))
    all_goals
      go_wp2_with fail
      go_ret
      refine ⟨rfl, ?_⟩
      first
        | exact below_trans H4.out (below_trans (below_drew _) (below_trans hb5 (below_trans (below_alloc _ _) hb6)))
        | exact below_trans H4.out (below_trans (below_trans (below_alloc _ _) (below_drew _)) (below_trans hb5 hb6))
end Go.Proofs.YtddepgacfeppfaaDoor

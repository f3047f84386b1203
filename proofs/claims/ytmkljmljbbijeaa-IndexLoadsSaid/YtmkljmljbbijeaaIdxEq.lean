/- The walks of flumelaw9's eq and same. -/
import Derived.Test.YtmkljmljbbijeaaIdxBytes
namespace Go.Proofs.Ytmkljmljbbijeaa
open Go.RowKit

set_option maxRecDepth 100000 in
set_option maxHeartbeats 4000000 in
/-- Of one list, twice. -/
theorem eq_ents (aa ab : Option Addr) (n ca cb : Nat) (L : List EntV) (w : World) (hn : L.length = n) (ha : EntsAt w aa L) (hb : EntsAt w ab L) (hl : n ≤ 8796093022207) :
    Calls Try.prog 50 #[.slice aa n ca, .slice ab n cb] w fun e w' => e = .returned (.bool true) ∧ Below w.heap.size w w' := by
  have HA := Lib.hid ha
  have HB := Lib.hid hb
  have HN := Lib.hid hn
  clear ha hb hn
  go_enter Try.func50, Try.ntmps50
  go_wp2_with fail
  go_loopw [5] (fun i wr => ∃ k : Nat, k ≤ n ∧ i = .int .i64 k ∧ Hid (Below w.heap.size w wr)) (fun i _ => n - (intOf i).toNat)
  case atStart => exact ⟨0, by omega, rfl, Lib.hid (Below.refl _ _)⟩
  case round =>
    obtain ⟨k, hk, rfl, W⟩ := hrel
    by_cases hlt : k < n
    · obtain ⟨b1, o1, rfl, hc1⟩ := (HA.out.below W.out) k (by have := HN.out; omega)
      obtain ⟨b2, o2, rfl, hc2⟩ := (HB.out.below W.out) k (by have := HN.out; omega)
      obtain ⟨c0, c1⟩ := hc1
      obtain ⟨d0, d1⟩ := hc2
      have kz : (k : Int) < (n : Int) := by omega
      go_wp2_with fail
      go_quiet (fail)
      go_wp2_with fail
      go_roundw
      case rel => exact ⟨k + 1, by omega, by go_num, Lib.hid (below_trans W.out (below_drewN _ _))⟩
      case measure => simp [intOf]; omega
    · have hge : (n : Int) ≤ (k : Int) := by omega
      go_wp2_with fail
      go_ret
      exact ⟨rfl, W.out⟩
end Go.Proofs.Ytmkljmljbbijeaa

/- The walk of (*square).twice: the map done twice, in a new row. -/
import Derived.Test.YtddepgacfeppfaaDoorCrcOf
import Derived.Test.YtddepgacfeppfaaDoorQuietTail
namespace Go.Proofs.YtddepgacfeppfaaDoor
open Go.RowKit

/-- A pointer to a new row of registers. -/
def NewSq (w : World) (f : Nat → BitVec 32) (e : Ending) (w' : World) : Prop :=
  ∃ b, e = .returned (.pointer (some ⟨b, 0, none⟩)) ∧ SqAt w' b f ∧ Below w.heap.size w w'
def regAt (f : Nat → BitVec 32) (i : Nat) : Value := .int .u32 (bv (f i))

set_option maxRecDepth 100000 in
theorem square_twice (b : Nat) (f : Nat → BitVec 32) (w : World) (hD : DeB w) (hS : SqAt w b f) :
    Calls Tryd.prog 29 #[.pointer (some ⟨b, 0, none⟩)] w (NewSq w fun i => Crc.ap f (f i)) := by
  have HD := Lib.hid hD
  have HS := Lib.hid hS
  clear hD hS
  go_enter Tryd.func29, Tryd.ntmps29
  go_wp2_with fail
  go_loopw [7] (fun i wr => ∃ k : Nat, k ≤ 32 ∧ i = .int .i64 k ∧ Fill w wr w.heap.size 32 (regAt fun i => Crc.ap f (f i)) k) (fun i _ => 32 - (intOf i).toNat)
  case atStart => exact ⟨0, by omega, rfl, Fill.start _ _ 32 rfl _⟩
  case round =>
    obtain ⟨k, hk, rfl, hF⟩ := hrel
    have HF := Lib.hid hF
    clear hF
    by_cases hlt : k < 32
    · obtain ⟨u, hu, hfz⟩ := HF.out.at hlt
      have hc : wr.cell? ⟨b, k, none⟩ = some (.int .u32 (bv (f k))) := HS.out.below HF.out.below k hlt
      go_wp2_with fail
      refine wp_region_tail_drew 11 (by kernel_rfl) (by kernel_rfl) ?_
      simp only [List.take_succ_cons, List.take_zero, List.drop_succ_cons, List.drop_zero]
      repeat (go_big_quiet_step ((go_at_call 28; exact Calls.quiet_of (square_of b f _ _ ((HD.out.below HF.out.below).drewN _) ((HS.out.below HF.out.below).drewN _)))))
      refine wpQuiet_nil ?_
      intro w1 hw1
      obtain ⟨nq, rfl⟩ := hw1
      go_wp2_with fail
      go_roundw
      case rel => exact ⟨k + 1, by omega, by go_num, (HF.out.on (below_drewN _ _)).next hlt⟩
      case measure => simp [intOf]; omega
    · obtain rfl : k = 32 := by omega
      go_wp2_with fail
      go_ret
      exact ⟨_, rfl, HF.out.cells, HF.out.below⟩
end Go.Proofs.YtddepgacfeppfaaDoor

/- The walk of flumelaw2's begun: what every statement of layer 2 asks ahead holds. -/
import Derived.Test.YtddepgacfeppfaaDoorBytes
import Derived.Test.YtddepgacfeppfaaDoorCrcRefMoved
import Derived.Lib.SlBytesConst
namespace Go.Proofs.YtddepgacfeppfaaDoor
open Go.RowKit

theorem crc_sum_of (ao : Option Addr) (n : Nat) (bs : List (BitVec 8)) (cap : Nat) (w : World) (hn : bs.length = n) (hb : BytesAt w ao bs) (hm : n ≤ 140737488351232) :
    Calls Tryd.prog 8 #[.slice ao n cap] w fun e w' => e = .returned (.int .u32 (bv (Crc.sum bs))) ∧ Below w.heap.size w w' := by
  subst hn; exact crc_sum ao bs cap w hb hm
def digits : List (BitVec 8) := [49#8, 50#8, 51#8, 52#8, 53#8, 54#8, 55#8, 56#8, 57#8]
theorem digits_sum : bv (Crc.sum digits) = 3808858755 := by
  have h : Crc.sum digits = 3808858755#32 := by decide +kernel
  rw [h]; rfl
theorem mask_none : bv (Crc.mask 0#32) = 2726488792 := by
  have h : Crc.mask 0#32 = 2726488792#32 := by decide +kernel
  rw [h]; rfl
theorem join_none : bv (Crc.join 3251651376#32 0#32 0) = 3251651376 := by
  have h : Crc.join 3251651376#32 0#32 0 = 3251651376#32 := by decide +kernel
  rw [h]; rfl

set_option maxRecDepth 100000 in
theorem crc_begun (w : World) (hD : DeB w) :
    Calls Tryd.prog 7 #[] w fun e w' => e = .returned (.bool true) ∧ Below w.heap.size w w' := by
  have HD := Lib.hid hD
  clear hD
  have hb := Lib.hid (bytes_new w digits 5 (9, 10))
  have hb0 := Lib.hid (Below.alloc (Below.refl w.heap.size w) (Nat.le_refl _) (.cells (bvals digits).toArray 5 (9, 10)))
  have kc := fun (w : World) (C : Array Value) (n c : Nat) => Lib.run_convert_bytes_const (P := Tryd.prog) w 22 5 C n c Tryd.underlying22 Tryd.underlying5
  go_enter Tryd.func7, Tryd.ntmps7
  go_wp2_with fail
  refine (crc_sum (some ⟨w.heap.size, 0, none⟩) digits 9 _ hb.out (by decide)).mono ?_
  rintro e w1 ⟨rfl, hb1⟩
  rw [digits_sum]
  have HB := Lib.hid (below_trans hb0.out hb1)
  clear hb1
  go_wp2_with fail
  refine (crc_mask 0#32 _).mono ?_
  rintro e w' ⟨rfl, rfl⟩
  rw [mask_none]
  go_wp2_with fail
  refine (crc_join 3251651376#32 0#32 0 _ (by omega) (HD.out.below HB.out)).mono ?_
  rintro e w2 ⟨rfl, hb2⟩
  rw [join_none]
  have HB2 := Lib.hid (below_trans HB.out hb2)
  clear hb2
  go_wp2_with fail
  go_ret
  exact ⟨rfl, HB2.out⟩
end Go.Proofs.YtddepgacfeppfaaDoor

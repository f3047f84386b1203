/- The walks of low where it succeeds, and of Signed, Fixed32, Fixed64, Byte, String. -/
import Derived.Test.YtfadpjljokpenaaWireMethods
import Derived.Test.YtfadpjljokpenaaWireCatch
import Derived.Test.YtfadpjljokpenaaPlainLow
import Derived.Test.YtfadpjljokpenaaWireString
import Derived.Test.YtfadpjljokpenaaWireForm
namespace Go.Proofs.Ytfadpjljokpenaa
open Go.RowKit

theorem wrap_shl8 (x : BitVec 64) (i : Nat) : IntKind.u64.wrap (bv x * 2 ^ (8 * i)) = bv (x <<< (8 * i)) := wrap_shl x (8 * i)
set_option maxHeartbeats 1000000 in
set_option maxRecDepth 100000 in
theorem low_ok (b : Nat) (bs : List (BitVec 8)) (k size : Nat) (w : World) (hR : RdAt w b bs k 0) (hm : bs.length ≤ 140737488355328) (hs : k + size ≤ bs.length) (h8 : size ≤ 8) :
    Calls Try.prog 88 #[.pointer (some ⟨b, 0, none⟩), .int .i64 size] w fun x w' => x = .returned (.int .u64 (bv (leB ((bs.drop k).take size)))) ∧ Upd b 1 (.int .i64 (k + size : Nat)) w w' := by
  have HR := Lib.hid hR
  have HM := Lib.hid hm
  have hl : size ≤ bs.length - k := by omega
  clear hR hm
  go_enter Try.func88, Try.ntmps88
  go_wp2_with fail
  refine (reader_rest b bs k _ HR.out).mono ?_
  rintro x w1 ⟨ao, cap, rfl, hb, hn, hcl, hcm, nd, rfl⟩
  have HB := Lib.hid hb
  clear hb hn
  go_wp2_with fail
  go_loopw [6, 7, 17] (fun n j i wr => ∃ t : Nat, t ≤ size ∧ i = .int .i64 t ∧ n = .int .u64 (bv (leB ((bs.drop k).take t))) ∧ wr = w.drewN nd) (fun _ _ i _ => size - (intOf i).toNat)
  case atStart => exact ⟨0, by omega, rfl, rfl, rfl⟩
  case round =>
    obtain ⟨t, ht, rfl, rfl, rfl⟩ := hrel
    by_cases hlt : t < size
    · have hlen : (bs.drop k).length = bs.length - k := by simp
      have ht2 : t < (bs.drop k).length := by omega
      obtain ⟨g, off, rfl, hc⟩ := HB.out t ht2
      have HN := Lib.hid (leB_snoc ((bs.drop k).take t) (at8 (bs.drop k) t) (by simp; omega))
      have HL := Lib.hid (show ((bs.drop k).take t).length = t by simp; omega)
      have HT := Lib.hid (show (bs.drop k).take t ++ [at8 (bs.drop k) t] = (bs.drop k).take (t + 1) by
        rw [at8_get ht2, List.take_append_getElem])
      rw [HL.out, HT.out] at HN
      clear hlen ht2 HL HT
      go_wp2_with fail
      go_roundw
      case rel => exact ⟨t + 1, by omega, by go_num, by rw [HN.out], trivial⟩
      case measure => simp [intOf]; omega
    · obtain rfl : t = size := by omega
      have hge : (t : Int) ≤ (t : Int) := Int.le_refl _
      go_wp2_with fail
      refine (reader_took b bs k t 0 _ (HR.out.on (below_drewN _ _)) hs HM.out).mono ?_
      rintro x w2 ⟨rfl, hU⟩
      have HU := Lib.hid hU
      clear hU
      go_wp2_with fail
      go_ret
      exact ⟨rfl, HU.out.from' (below_drewN _ _) HR.out.lt⟩

set_option maxHeartbeats 1000000 in
set_option maxRecDepth 100000 in
theorem fixed64_stop (b : Nat) (bs : List (BitVec 8)) (k bad : Nat) (w : World) (hR : RdAt w b bs k bad) (e : Nat) (he : e ≠ 0) (h : LowStop bs k bad 8 e) :
    Calls Try.prog 61 #[.pointer (some ⟨b, 0, none⟩)] w fun x w' => x = .returned (.int .u64 0) ∧ Upd b 2 (.int .i64 e) w w' := by
  have HR := Lib.hid hR
  have HE := Lib.hid he
  have HH := Lib.hid h
  have hmf : ∀ (fn : Fn) (first cap : Array Value) (w : World), (Instr.makeFunc fn first cap).run Try.prog w = .ok (.func fn first cap) w := fun _ _ _ _ => rfl
  have HT := Lib.hid (two_new w (some ⟨b, 0, none⟩) (.int .u64 0) 85 75)
  clear hR he h
  go_enter_defers Try.func61, Try.ntmps61
  go_wp2_with fail
  refine (low_stop b bs k bad 8 _ (HR.out.on HT.out.below) e HE.out HH.out).mono ?_
  rintro x w1 ⟨rfl, hb⟩
  have B1 := Lib.hid hb
  have hu : But b _ w1 := (But.refl b _).of_below hb
  obtain ⟨cr, cn, cf⟩ := HT.out.but HR.out.lt hu
  have R1 := Lib.hid ((HR.out.on HT.out.below).on hb)
  clear hu hb
  go_wp2_with fail
  have hne : (⟨w.heap.size + 1, 0, none⟩ : Addr).block ≠ b := by have := HR.out.lt; simp; omega
  refine leaves_cons (f := 89) (args := #[.pointer (some ⟨w.heap.size, 0, none⟩), .pointer (some ⟨w.heap.size + 1, 0, none⟩)]) (by simp) (by simp [go_sem]) ?_
  refine (catch_fixed64 _ _ b e _ _ [] w1 cr R1.out.at2 R1.out.free2 cn cf hne).mono ?_
  rintro x u' w'' ⟨rfl, rfl, ⟨⟨w2, hU, rfl⟩⟩⟩
  have cn2 : (w2.setCell ⟨w.heap.size + 1, 0, none⟩ (.int .u64 0)).cell? ⟨w.heap.size + 1, 0, none⟩ = some (.int .u64 0) := World.cell?_setCell_same _ _ _ (hU.but.cell (show w1.drew.cell? _ = _ from cn) hne)
  have HF : Upd b 2 (.int .i64 e) w (w2.setCell ⟨w.heap.size + 1, 0, none⟩ (.int .u64 0)) := hU.wrap ((below_trans HT.out.below B1.out).drew) HR.out.lt (by simp)
  simp [Leaves, settle, results, Try.results61, go_sem, cn2]
  exact HF
set_option maxHeartbeats 1000000 in
set_option maxRecDepth 100000 in
theorem byte_stop (b : Nat) (bs : List (BitVec 8)) (k bad : Nat) (w : World) (hR : RdAt w b bs k bad) (e : Nat) (he : e ≠ 0) (h : LowStop bs k bad 1 e) :
    Calls Try.prog 82 #[.pointer (some ⟨b, 0, none⟩)] w fun x w' => x = .returned (.int .u8 0) ∧ Upd b 2 (.int .i64 e) w w' := by
  have HR := Lib.hid hR
  have HE := Lib.hid he
  have HH := Lib.hid h
  have hmf : ∀ (fn : Fn) (first cap : Array Value) (w : World), (Instr.makeFunc fn first cap).run Try.prog w = .ok (.func fn first cap) w := fun _ _ _ _ => rfl
  have HT := Lib.hid (two_new w (some ⟨b, 0, none⟩) (.int .u8 0) 85 5)
  clear hR he h
  go_enter_defers Try.func82, Try.ntmps82
  go_wp2_with fail
  refine (low_stop b bs k bad 1 _ (HR.out.on HT.out.below) e HE.out HH.out).mono ?_
  rintro x w1 ⟨rfl, hb⟩
  have B1 := Lib.hid hb
  have hu : But b _ w1 := (But.refl b _).of_below hb
  obtain ⟨cr, cn, cf⟩ := HT.out.but HR.out.lt hu
  have R1 := Lib.hid ((HR.out.on HT.out.below).on hb)
  clear hu hb
  go_wp2_with fail
  have hne : (⟨w.heap.size + 1, 0, none⟩ : Addr).block ≠ b := by have := HR.out.lt; simp; omega
  refine leaves_cons (f := 101) (args := #[.pointer (some ⟨w.heap.size, 0, none⟩), .pointer (some ⟨w.heap.size + 1, 0, none⟩)]) (by simp) (by simp [go_sem]) ?_
  refine (catch_byte _ _ b e _ _ [] w1 cr R1.out.at2 R1.out.free2 cn cf hne).mono ?_
  rintro x u' w'' ⟨rfl, rfl, ⟨⟨w2, hU, rfl⟩⟩⟩
  have cn2 : (w2.setCell ⟨w.heap.size + 1, 0, none⟩ (.int .u8 0)).cell? ⟨w.heap.size + 1, 0, none⟩ = some (.int .u8 0) := World.cell?_setCell_same _ _ _ (hU.but.cell (show w1.drew.cell? _ = _ from cn) hne)
  have HF : Upd b 2 (.int .i64 e) w (w2.setCell ⟨w.heap.size + 1, 0, none⟩ (.int .u8 0)) := hU.wrap ((below_trans HT.out.below B1.out).drew) HR.out.lt (by simp)
  simp [Leaves, settle, results, Try.results82, go_sem, cn2]
  exact HF
set_option maxHeartbeats 1000000 in
set_option maxRecDepth 100000 in
theorem fixed32_ok (b : Nat) (bs : List (BitVec 8)) (k : Nat) (w : World) (hR : RdAt w b bs k 0) (hm : bs.length ≤ 140737488355328) (hs : k + 4 ≤ bs.length) :
    Calls Try.prog 60 #[.pointer (some ⟨b, 0, none⟩)] w fun x w' => x = .returned (.int .u32 (bv ((leB ((bs.drop k).take 4)).setWidth 32))) ∧ Upd b 1 (.int .i64 (k + 4 : Nat)) w w' := by
  have HR := Lib.hid hR
  have hmf : ∀ (fn : Fn) (first cap : Array Value) (w : World), (Instr.makeFunc fn first cap).run Try.prog w = .ok (.func fn first cap) w := fun _ _ _ _ => rfl
  have HM := Lib.hid hm
  have HT := Lib.hid (two_new w (some ⟨b, 0, none⟩) (.int .u32 0) 85 35)
  clear hR hm
  go_enter_defers Try.func60, Try.ntmps60
  go_wp2_with fail
  refine (low_ok b bs k 4 _ (HR.out.on HT.out.below) HM.out hs (by omega)).mono ?_
  rintro x w1 ⟨rfl, hu⟩
  have HU := Lib.hid hu
  obtain ⟨cr, cn, cf⟩ := HT.out.but HR.out.lt hu.but
  clear hu
  go_wp2_with fail
  have cr' : (w1.setCell ⟨w.heap.size + 1, 0, none⟩ (.int .u32 (bv ((leB ((bs.drop k).take 4)).setWidth 32)))).cell? ⟨w.heap.size, 0, none⟩ = some (.pointer (some ⟨b, 0, none⟩)) := by
    rw [World.cell?_setCell_other _ _ _ _ (by intro e; injection e; omega)]; exact cr
  refine leaves_cons (f := 87) (args := #[.pointer (some ⟨w.heap.size, 0, none⟩), .pointer (some ⟨w.heap.size + 1, 0, none⟩)]) (by simp) (by simp [go_sem]) ?_
  refine (idle_fixed32 _ _ _ _ cr').mono ?_
  rintro e u' w'' ⟨rfl, rfl, rfl⟩
  have cn' : (w1.setCell ⟨w.heap.size + 1, 0, none⟩ (.int .u32 (bv ((leB ((bs.drop k).take 4)).setWidth 32)))).cell? ⟨w.heap.size + 1, 0, none⟩ = some (.int .u32 (bv ((leB ((bs.drop k).take 4)).setWidth 32))) := World.cell?_setCell_same _ _ _ cn
  have HF : Upd b 1 (.int .i64 (k + 4 : Nat)) w (w1.setCell ⟨w.heap.size + 1, 0, none⟩ (.int .u32 (bv ((leB ((bs.drop k).take 4)).setWidth 32)))).drew := (HU.out.wrap HT.out.below HR.out.lt (by simp)).drew
  simp [Leaves, settle, results, Try.results60, go_sem, cn']
  exact HF

set_option maxHeartbeats 1000000 in
set_option maxRecDepth 100000 in
theorem fixed64_ok (b : Nat) (bs : List (BitVec 8)) (k : Nat) (w : World) (hR : RdAt w b bs k 0) (hm : bs.length ≤ 140737488355328) (hs : k + 8 ≤ bs.length) :
    Calls Try.prog 61 #[.pointer (some ⟨b, 0, none⟩)] w fun x w' => x = .returned (.int .u64 (bv (leB ((bs.drop k).take 8)))) ∧ Upd b 1 (.int .i64 (k + 8 : Nat)) w w' := by
  have HR := Lib.hid hR
  have hmf : ∀ (fn : Fn) (first cap : Array Value) (w : World), (Instr.makeFunc fn first cap).run Try.prog w = .ok (.func fn first cap) w := fun _ _ _ _ => rfl
  have HM := Lib.hid hm
  have HT := Lib.hid (two_new w (some ⟨b, 0, none⟩) (.int .u64 0) 85 75)
  clear hR hm
  go_enter_defers Try.func61, Try.ntmps61
  go_wp2_with fail
  refine (low_ok b bs k 8 _ (HR.out.on HT.out.below) HM.out hs (by omega)).mono ?_
  rintro x w1 ⟨rfl, hu⟩
  have HU := Lib.hid hu
  obtain ⟨cr, cn, cf⟩ := HT.out.but HR.out.lt hu.but
  clear hu
  go_wp2_with fail
  have cr' : (w1.setCell ⟨w.heap.size + 1, 0, none⟩ (.int .u64 (bv (leB ((bs.drop k).take 8))))).cell? ⟨w.heap.size, 0, none⟩ = some (.pointer (some ⟨b, 0, none⟩)) := by
    rw [World.cell?_setCell_other _ _ _ _ (by intro e; injection e; omega)]; exact cr
  refine leaves_cons (f := 89) (args := #[.pointer (some ⟨w.heap.size, 0, none⟩), .pointer (some ⟨w.heap.size + 1, 0, none⟩)]) (by simp) (by simp [go_sem]) ?_
  refine (idle_fixed64 _ _ _ _ cr').mono ?_
  rintro e u' w'' ⟨rfl, rfl, rfl⟩
  have cn' : (w1.setCell ⟨w.heap.size + 1, 0, none⟩ (.int .u64 (bv (leB ((bs.drop k).take 8))))).cell? ⟨w.heap.size + 1, 0, none⟩ = some (.int .u64 (bv (leB ((bs.drop k).take 8)))) := World.cell?_setCell_same _ _ _ cn
  have HF : Upd b 1 (.int .i64 (k + 8 : Nat)) w (w1.setCell ⟨w.heap.size + 1, 0, none⟩ (.int .u64 (bv (leB ((bs.drop k).take 8))))).drew := (HU.out.wrap HT.out.below HR.out.lt (by simp)).drew
  simp [Leaves, settle, results, Try.results61, go_sem, cn']
  exact HF

set_option maxHeartbeats 1000000 in
set_option maxRecDepth 100000 in
theorem byte_ok (b : Nat) (bs : List (BitVec 8)) (k : Nat) (w : World) (hR : RdAt w b bs k 0) (hm : bs.length ≤ 140737488355328) (hs : k + 1 ≤ bs.length) :
    Calls Try.prog 82 #[.pointer (some ⟨b, 0, none⟩)] w fun x w' => x = .returned (.int .u8 (bv ((leB ((bs.drop k).take 1)).setWidth 8))) ∧ Upd b 1 (.int .i64 (k + 1 : Nat)) w w' := by
  have HR := Lib.hid hR
  have hmf : ∀ (fn : Fn) (first cap : Array Value) (w : World), (Instr.makeFunc fn first cap).run Try.prog w = .ok (.func fn first cap) w := fun _ _ _ _ => rfl
  have HM := Lib.hid hm
  have HT := Lib.hid (two_new w (some ⟨b, 0, none⟩) (.int .u8 0) 85 5)
  clear hR hm
  go_enter_defers Try.func82, Try.ntmps82
  go_wp2_with fail
  refine (low_ok b bs k 1 _ (HR.out.on HT.out.below) HM.out hs (by omega)).mono ?_
  rintro x w1 ⟨rfl, hu⟩
  have HU := Lib.hid hu
  obtain ⟨cr, cn, cf⟩ := HT.out.but HR.out.lt hu.but
  clear hu
  go_wp2_with fail
  have cr' : (w1.setCell ⟨w.heap.size + 1, 0, none⟩ (.int .u8 (bv ((leB ((bs.drop k).take 1)).setWidth 8)))).cell? ⟨w.heap.size, 0, none⟩ = some (.pointer (some ⟨b, 0, none⟩)) := by
    rw [World.cell?_setCell_other _ _ _ _ (by intro e; injection e; omega)]; exact cr
  refine leaves_cons (f := 101) (args := #[.pointer (some ⟨w.heap.size, 0, none⟩), .pointer (some ⟨w.heap.size + 1, 0, none⟩)]) (by simp) (by simp [go_sem]) ?_
  refine (idle_byte _ _ _ _ cr').mono ?_
  rintro e u' w'' ⟨rfl, rfl, rfl⟩
  have cn' : (w1.setCell ⟨w.heap.size + 1, 0, none⟩ (.int .u8 (bv ((leB ((bs.drop k).take 1)).setWidth 8)))).cell? ⟨w.heap.size + 1, 0, none⟩ = some (.int .u8 (bv ((leB ((bs.drop k).take 1)).setWidth 8))) := World.cell?_setCell_same _ _ _ cn
  have HF : Upd b 1 (.int .i64 (k + 1 : Nat)) w (w1.setCell ⟨w.heap.size + 1, 0, none⟩ (.int .u8 (bv ((leB ((bs.drop k).take 1)).setWidth 8)))).drew := (HU.out.wrap HT.out.below HR.out.lt (by simp)).drew
  simp [Leaves, settle, results, Try.results82, go_sem, cn']
  exact HF

theorem bv_most (n : BitVec 64) : bv n ≤ bv 18446744073709551615#64 := by
  have := n.isLt
  have e : bv 18446744073709551615#64 = 18446744073709551615 := rfl
  rw [e]; unfold bv; omega
theorem bv_range' (u : BitVec 64) : 0 ≤ bv u ∧ bv u < 18446744073709551616 := by
  have := u.isLt
  unfold bv
  omega
set_option maxHeartbeats 1000000 in
set_option maxRecDepth 100000 in
theorem signed_ok (b : Nat) (bs : List (BitVec 8)) (k : Nat) (w : World) (hR : RdAt w b bs k 0) (hm : bs.length ≤ 140737488355328) (n : BitVec 64) (j : Nat) (hr : rv (bs.drop k) = (n, j, 0))  :
    Calls Try.prog 59 #[.pointer (some ⟨b, 0, none⟩)] w fun x w' => x = .returned (.int .i64 (zag (bv n))) ∧ Upd b 1 (.int .i64 (k + j : Nat)) w w' := by
  have HR := Lib.hid hR
  have HV := Lib.hid hr
  have hmf : ∀ (fn : Fn) (first cap : Array Value) (w : World), (Instr.makeFunc fn first cap).run Try.prog w = .ok (.func fn first cap) w := fun _ _ _ _ => rfl
  have HM := Lib.hid hm
  have HT := Lib.hid (two_new w (some ⟨b, 0, none⟩) (.int .i64 0) 85 2)
  clear hR hm hr
  go_enter_defers Try.func59, Try.ntmps59
  go_wp2_with fail
  refine (number_ok b bs k 18446744073709551615#64 _ (HR.out.on HT.out.below) HM.out n j HV.out (bv_most n)).mono ?_
  rintro x w1 ⟨rfl, hu⟩
  have HU := Lib.hid hu
  have HZ := Lib.hid (bv_range' n)
  obtain ⟨cr, cn, cf⟩ := HT.out.but HR.out.lt hu.but
  clear hu
  go_wp2_with fail
  refine (wire_zag_int _ _ HZ.out.1 HZ.out.2).mono ?_
  rintro x w' ⟨rfl, rfl⟩
  go_wp2_with fail
  have cr' : (w1.setCell ⟨w.heap.size + 1, 0, none⟩ (.int .i64 (zag (bv n)))).cell? ⟨w.heap.size, 0, none⟩ = some (.pointer (some ⟨b, 0, none⟩)) := by
    rw [World.cell?_setCell_other _ _ _ _ (by intro e; injection e; omega)]; exact cr
  refine leaves_cons (f := 86) (args := #[.pointer (some ⟨w.heap.size, 0, none⟩), .pointer (some ⟨w.heap.size + 1, 0, none⟩)]) (by simp) (by simp [go_sem]) ?_
  refine (idle_signed _ _ _ _ cr').mono ?_
  rintro e u' w'' ⟨rfl, rfl, rfl⟩
  have cn' : (w1.setCell ⟨w.heap.size + 1, 0, none⟩ (.int .i64 (zag (bv n)))).cell? ⟨w.heap.size + 1, 0, none⟩ = some (.int .i64 (zag (bv n))) := World.cell?_setCell_same _ _ _ cn
  have HF : Upd b 1 (.int .i64 (k + j : Nat)) w (w1.setCell ⟨w.heap.size + 1, 0, none⟩ (.int .i64 (zag (bv n)))).drew := (HU.out.wrap HT.out.below HR.out.lt (by simp)).drew
  simp [Leaves, settle, results, Try.results59, go_sem, cn']
  rw [← Int.natCast_add]
  exact HF

set_option maxHeartbeats 1000000 in
set_option maxRecDepth 100000 in
theorem signed_stop (b : Nat) (bs : List (BitVec 8)) (k bad : Nat) (w : World) (hR : RdAt w b bs k bad) (e : Nat) (he : e ≠ 0) (h : bad = 0 ∧ (rn bs k 18446744073709551615#64).2.2 = e ∨ bad = e) (hm : bs.length ≤ 140737488355328) :
    Calls Try.prog 59 #[.pointer (some ⟨b, 0, none⟩)] w fun x w' => x = .returned (.int .i64 0) ∧ Upd b 2 (.int .i64 e) w w' := by
  have HR := Lib.hid hR
  have HE := Lib.hid he
  have HH := Lib.hid h
  have hmf : ∀ (fn : Fn) (first cap : Array Value) (w : World), (Instr.makeFunc fn first cap).run Try.prog w = .ok (.func fn first cap) w := fun _ _ _ _ => rfl
  have HM := Lib.hid hm
  have HT := Lib.hid (two_new w (some ⟨b, 0, none⟩) (.int .i64 0) 85 2)
  clear hR hm he h
  go_enter_defers Try.func59, Try.ntmps59
  go_wp2_with fail
  refine (number_stop b bs k bad 18446744073709551615#64 _ (HR.out.on HT.out.below) e HE.out HH.out HM.out).mono ?_
  rintro x w1 ⟨rfl, hb⟩
  have B1 := Lib.hid hb
  have hu : But b _ w1 := (But.refl b _).of_below hb
  obtain ⟨cr, cn, cf⟩ := HT.out.but HR.out.lt hu
  have R1 := Lib.hid ((HR.out.on HT.out.below).on hb)
  clear hu hb
  go_wp2_with fail
  have hne : (⟨w.heap.size + 1, 0, none⟩ : Addr).block ≠ b := by have := HR.out.lt; simp; omega
  refine leaves_cons (f := 86) (args := #[.pointer (some ⟨w.heap.size, 0, none⟩), .pointer (some ⟨w.heap.size + 1, 0, none⟩)]) (by simp) (by simp [go_sem]) ?_
  refine (catch_signed _ _ b e _ _ [] w1 cr R1.out.at2 R1.out.free2 cn cf hne).mono ?_
  rintro x u' w'' ⟨rfl, rfl, ⟨⟨w2, hU, rfl⟩⟩⟩
  have cn2 : (w2.setCell ⟨w.heap.size + 1, 0, none⟩ (.int .i64 0)).cell? ⟨w.heap.size + 1, 0, none⟩ = some (.int .i64 0) := World.cell?_setCell_same _ _ _ (hU.but.cell (show w1.drew.cell? _ = _ from cn) hne)
  have HF : Upd b 2 (.int .i64 e) w (w2.setCell ⟨w.heap.size + 1, 0, none⟩ (.int .i64 0)) := hU.wrap ((below_trans HT.out.below B1.out).drew) HR.out.lt (by simp)
  simp [Leaves, settle, results, Try.results59, go_sem, cn2]
  exact HF

end Go.Proofs.Ytfadpjljokpenaa

/- The walks of low where it succeeds, and of Signed, Fixed32, Fixed64, Byte, String. -/
import Derived.Test.YtmkljmljbbijeaaWireMethods
import Derived.Test.YtmkljmljbbijeaaWireCatch
import Derived.Test.YtmkljmljbbijeaaWireForm
import Derived.Test.YtmkljmljbbijeaaWireString
namespace Go.Proofs.Ytmkljmljbbijeaa
open Go.RowKit

theorem wrap_shl8 (x : BitVec 64) (i : Nat) : IntKind.u64.wrap (bv x * 2 ^ (8 * i)) = bv (x <<< (8 * i)) := wrap_shl x (8 * i)
set_option maxHeartbeats 1000000 in
set_option maxRecDepth 100000 in
theorem low_ok (b : Nat) (bs : List (BitVec 8)) (k size : Nat) (w : World) (hR : RdAt w b bs k 0) (hm : bs.length ≤ 140737488355328) (hs : k + size ≤ bs.length) (h8 : size ≤ 8) :
    Calls Try.prog 104 #[.pointer (some ⟨b, 0, none⟩), .int .i64 size] w fun x w' => x = .returned (.int .u64 (bv (leB ((bs.drop k).take size)))) ∧ Upd b 1 (.int .i64 (k + size : Nat)) w w' := by
  have HR := Lib.hid hR
  have HM := Lib.hid hm
  have hl : size ≤ bs.length - k := by omega
  clear hR hm
  go_enter Try.func104, Try.ntmps104
  go_wp2_with fail
  refine (reader_rest b bs k _ HR.out).mono ?_
  rintro x w1 ⟨ao, cap, rfl, hb, hn, hcl, hcm, nd, rfl⟩
  have HB := Lib.hid hb
  clear hb hn
  go_wp2_with fail
  go_loopw [6, 7, 17] (fun n j i wr => ∃ t : Nat, t ≤ size ∧ i = .int .i64 t ∧ n = .int .u64 (bv (leB ((bs.drop k).take t))) ∧ wr = w.drewN nd) (fun _ _ i _ => size - (intOf i).toNat)
  case atStart => exact ⟨0, by omega, rfl, rfl, rfl⟩
  case round =>
    obtain ⟨t, ht, rfl, rfl, rfl⟩ := hrel
    by_cases hlt : t < size
    · have hlen : (bs.drop k).length = bs.length - k := by simp
      have ht2 : t < (bs.drop k).length := by omega
      obtain ⟨g, off, rfl, hc⟩ := HB.out t ht2
      have HN := Lib.hid (leB_snoc ((bs.drop k).take t) (at8 (bs.drop k) t) (by simp; omega))
      have HL := Lib.hid (show ((bs.drop k).take t).length = t by simp; omega)
      have HT := Lib.hid (show (bs.drop k).take t ++ [at8 (bs.drop k) t] = (bs.drop k).take (t + 1) by
        rw [at8_get ht2, List.take_append_getElem])
      rw [HL.out, HT.out] at HN
      clear hlen ht2 HL HT
      go_wp2_with fail
      go_roundw
      case rel => exact ⟨t + 1, by omega, by go_num, by rw [HN.out], trivial⟩
      case measure => simp [intOf]; omega
    · obtain rfl : t = size := by omega
      have hge : (t : Int) ≤ (t : Int) := Int.le_refl _
      go_wp2_with fail
      refine (reader_took b bs k t 0 _ (HR.out.on (below_drewN _ _)) hs HM.out).mono ?_
      rintro x w2 ⟨rfl, hU⟩
      have HU := Lib.hid hU
      clear hU
      go_wp2_with fail
      go_ret
      exact ⟨rfl, HU.out.from' (below_drewN _ _) HR.out.lt⟩

set_option maxHeartbeats 1000000 in
set_option maxRecDepth 100000 in
theorem fixed64_stop (b : Nat) (bs : List (BitVec 8)) (k bad : Nat) (w : World) (hR : RdAt w b bs k bad) (e : Nat) (he : e ≠ 0) (h : LowStop bs k bad 8 e) :
    Calls Try.prog 96 #[.pointer (some ⟨b, 0, none⟩)] w fun x w' => x = .returned (.int .u64 0) ∧ Upd b 2 (.int .i64 e) w w' := by
  have HR := Lib.hid hR
  have HE := Lib.hid he
  have HH := Lib.hid h
  have hmf : ∀ (fn : Fn) (first cap : Array Value) (w : World), (Instr.makeFunc fn first cap).run Try.prog w = .ok (.func fn first cap) w := fun _ _ _ _ => rfl
  have HT := Lib.hid (two_new w (some ⟨b, 0, none⟩) (.int .u64 0) 106 96)
  clear hR he h
  go_enter_defers Try.func96, Try.ntmps96
  go_wp2_with fail
  refine (low_stop b bs k bad 8 _ (HR.out.on HT.out.below) e HE.out HH.out).mono ?_
  rintro x w1 ⟨rfl, hb⟩
  have B1 := Lib.hid hb
  have hu : But b _ w1 := (But.refl b _).of_below hb
  obtain ⟨cr, cn, cf⟩ := HT.out.but HR.out.lt hu
  have R1 := Lib.hid ((HR.out.on HT.out.below).on hb)
  clear hu hb
  go_wp2_with fail
  have hne : (⟨w.heap.size + 1, 0, none⟩ : Addr).block ≠ b := by have := HR.out.lt; simp; omega
  refine leaves_cons (f := 114) (args := #[.pointer (some ⟨w.heap.size, 0, none⟩), .pointer (some ⟨w.heap.size + 1, 0, none⟩)]) (by simp) (by simp [go_sem]) ?_
  refine (catch_fixed64 _ _ b e _ _ [] w1 cr R1.out.at2 R1.out.free2 cn cf hne).mono ?_
  rintro x u' w'' ⟨rfl, rfl, ⟨⟨w2, hU, rfl⟩⟩⟩
  have cn2 : (w2.setCell ⟨w.heap.size + 1, 0, none⟩ (.int .u64 0)).cell? ⟨w.heap.size + 1, 0, none⟩ = some (.int .u64 0) := World.cell?_setCell_same _ _ _ (hU.but.cell (show w1.drew.cell? _ = _ from cn) hne)
  have HF : Upd b 2 (.int .i64 e) w (w2.setCell ⟨w.heap.size + 1, 0, none⟩ (.int .u64 0)) := hU.wrap ((below_trans HT.out.below B1.out).drew) HR.out.lt (by simp)
  simp [Leaves, settle, results, Try.results96, go_sem, cn2]
  exact HF
set_option maxHeartbeats 1000000 in
set_option maxRecDepth 100000 in
theorem byte_stop (b : Nat) (bs : List (BitVec 8)) (k bad : Nat) (w : World) (hR : RdAt w b bs k bad) (e : Nat) (he : e ≠ 0) (h : LowStop bs k bad 1 e) :
    Calls Try.prog 99 #[.pointer (some ⟨b, 0, none⟩)] w fun x w' => x = .returned (.int .u8 0) ∧ Upd b 2 (.int .i64 e) w w' := by
  have HR := Lib.hid hR
  have HE := Lib.hid he
  have HH := Lib.hid h
  have hmf : ∀ (fn : Fn) (first cap : Array Value) (w : World), (Instr.makeFunc fn first cap).run Try.prog w = .ok (.func fn first cap) w := fun _ _ _ _ => rfl
  have HT := Lib.hid (two_new w (some ⟨b, 0, none⟩) (.int .u8 0) 106 5)
  clear hR he h
  go_enter_defers Try.func99, Try.ntmps99
  go_wp2_with fail
  refine (low_stop b bs k bad 1 _ (HR.out.on HT.out.below) e HE.out HH.out).mono ?_
  rintro x w1 ⟨rfl, hb⟩
  have B1 := Lib.hid hb
  have hu : But b _ w1 := (But.refl b _).of_below hb
  obtain ⟨cr, cn, cf⟩ := HT.out.but HR.out.lt hu
  have R1 := Lib.hid ((HR.out.on HT.out.below).on hb)
  clear hu hb
  go_wp2_with fail
  have hne : (⟨w.heap.size + 1, 0, none⟩ : Addr).block ≠ b := by have := HR.out.lt; simp; omega
  refine leaves_cons (f := 119) (args := #[.pointer (some ⟨w.heap.size, 0, none⟩), .pointer (some ⟨w.heap.size + 1, 0, none⟩)]) (by simp) (by simp [go_sem]) ?_
  refine (catch_byte _ _ b e _ _ [] w1 cr R1.out.at2 R1.out.free2 cn cf hne).mono ?_
  rintro x u' w'' ⟨rfl, rfl, ⟨⟨w2, hU, rfl⟩⟩⟩
  have cn2 : (w2.setCell ⟨w.heap.size + 1, 0, none⟩ (.int .u8 0)).cell? ⟨w.heap.size + 1, 0, none⟩ = some (.int .u8 0) := World.cell?_setCell_same _ _ _ (hU.but.cell (show w1.drew.cell? _ = _ from cn) hne)
  have HF : Upd b 2 (.int .i64 e) w (w2.setCell ⟨w.heap.size + 1, 0, none⟩ (.int .u8 0)) := hU.wrap ((below_trans HT.out.below B1.out).drew) HR.out.lt (by simp)
  simp [Leaves, settle, results, Try.results99, go_sem, cn2]
  exact HF
set_option maxHeartbeats 1000000 in
set_option maxRecDepth 100000 in
theorem fixed32_ok (b : Nat) (bs : List (BitVec 8)) (k : Nat) (w : World) (hR : RdAt w b bs k 0) (hm : bs.length ≤ 140737488355328) (hs : k + 4 ≤ bs.length) :
    Calls Try.prog 82 #[.pointer (some ⟨b, 0, none⟩)] w fun x w' => x = .returned (.int .u32 (bv ((leB ((bs.drop k).take 4)).setWidth 32))) ∧ Upd b 1 (.int .i64 (k + 4 : Nat)) w w' := by
  have HR := Lib.hid hR
  have hmf : ∀ (fn : Fn) (first cap : Array Value) (w : World), (Instr.makeFunc fn first cap).run Try.prog w = .ok (.func fn first cap) w := fun _ _ _ _ => rfl
  have HM := Lib.hid hm
  have HT := Lib.hid (two_new w (some ⟨b, 0, none⟩) (.int .u32 0) 106 23)
  clear hR hm
  go_enter_defers Try.func82, Try.ntmps82
  go_wp2_with fail
  refine (low_ok b bs k 4 _ (HR.out.on HT.out.below) HM.out hs (by omega)).mono ?_
  rintro x w1 ⟨rfl, hu⟩
  have HU := Lib.hid hu
  obtain ⟨cr, cn, cf⟩ := HT.out.but HR.out.lt hu.but
  clear hu
  go_wp2_with fail
  have cr' : (w1.setCell ⟨w.heap.size + 1, 0, none⟩ (.int .u32 (bv ((leB ((bs.drop k).take 4)).setWidth 32)))).cell? ⟨w.heap.size, 0, none⟩ = some (.pointer (some ⟨b, 0, none⟩)) := by
    rw [World.cell?_setCell_other _ _ _ _ (by intro e; injection e; omega)]; exact cr
  refine leaves_cons (f := 102) (args := #[.pointer (some ⟨w.heap.size, 0, none⟩), .pointer (some ⟨w.heap.size + 1, 0, none⟩)]) (by simp) (by simp [go_sem]) ?_
  refine (idle_fixed32 _ _ _ _ cr').mono ?_
  rintro e u' w'' ⟨rfl, rfl, rfl⟩
  have cn' : (w1.setCell ⟨w.heap.size + 1, 0, none⟩ (.int .u32 (bv ((leB ((bs.drop k).take 4)).setWidth 32)))).cell? ⟨w.heap.size + 1, 0, none⟩ = some (.int .u32 (bv ((leB ((bs.drop k).take 4)).setWidth 32))) := World.cell?_setCell_same _ _ _ cn
  have HF : Upd b 1 (.int .i64 (k + 4 : Nat)) w (w1.setCell ⟨w.heap.size + 1, 0, none⟩ (.int .u32 (bv ((leB ((bs.drop k).take 4)).setWidth 32)))).drew := (HU.out.wrap HT.out.below HR.out.lt (by simp)).drew
  simp [Leaves, settle, results, Try.results82, go_sem, cn']
  exact HF

set_option maxHeartbeats 1000000 in
set_option maxRecDepth 100000 in
theorem fixed64_ok (b : Nat) (bs : List (BitVec 8)) (k : Nat) (w : World) (hR : RdAt w b bs k 0) (hm : bs.length ≤ 140737488355328) (hs : k + 8 ≤ bs.length) :
    Calls Try.prog 96 #[.pointer (some ⟨b, 0, none⟩)] w fun x w' => x = .returned (.int .u64 (bv (leB ((bs.drop k).take 8)))) ∧ Upd b 1 (.int .i64 (k + 8 : Nat)) w w' := by
  have HR := Lib.hid hR
  have hmf : ∀ (fn : Fn) (first cap : Array Value) (w : World), (Instr.makeFunc fn first cap).run Try.prog w = .ok (.func fn first cap) w := fun _ _ _ _ => rfl
  have HM := Lib.hid hm
  have HT := Lib.hid (two_new w (some ⟨b, 0, none⟩) (.int .u64 0) 106 96)
  clear hR hm
  go_enter_defers Try.func96, Try.ntmps96
  go_wp2_with fail
  refine (low_ok b bs k 8 _ (HR.out.on HT.out.below) HM.out hs (by omega)).mono ?_
  rintro x w1 ⟨rfl, hu⟩
  have HU := Lib.hid hu
  obtain ⟨cr, cn, cf⟩ := HT.out.but HR.out.lt hu.but
  clear hu
  go_wp2_with fail
  have cr' : (w1.setCell ⟨w.heap.size + 1, 0, none⟩ (.int .u64 (bv (leB ((bs.drop k).take 8))))).cell? ⟨w.heap.size, 0, none⟩ = some (.pointer (some ⟨b, 0, none⟩)) := by
    rw [World.cell?_setCell_other _ _ _ _ (by intro e; injection e; omega)]; exact cr
  refine leaves_cons (f := 114) (args := #[.pointer (some ⟨w.heap.size, 0, none⟩), .pointer (some ⟨w.heap.size + 1, 0, none⟩)]) (by simp) (by simp [go_sem]) ?_
  refine (idle_fixed64 _ _ _ _ cr').mono ?_
  rintro e u' w'' ⟨rfl, rfl, rfl⟩
  have cn' : (w1.setCell ⟨w.heap.size + 1, 0, none⟩ (.int .u64 (bv (leB ((bs.drop k).take 8))))).cell? ⟨w.heap.size + 1, 0, none⟩ = some (.int .u64 (bv (leB ((bs.drop k).take 8)))) := World.cell?_setCell_same _ _ _ cn
  have HF : Upd b 1 (.int .i64 (k + 8 : Nat)) w (w1.setCell ⟨w.heap.size + 1, 0, none⟩ (.int .u64 (bv (leB ((bs.drop k).take 8))))).drew := (HU.out.wrap HT.out.below HR.out.lt (by simp)).drew
  simp [Leaves, settle, results, Try.results96, go_sem, cn']
  exact HF

set_option maxHeartbeats 1000000 in
set_option maxRecDepth 100000 in
theorem byte_ok (b : Nat) (bs : List (BitVec 8)) (k : Nat) (w : World) (hR : RdAt w b bs k 0) (hm : bs.length ≤ 140737488355328) (hs : k + 1 ≤ bs.length) :
    Calls Try.prog 99 #[.pointer (some ⟨b, 0, none⟩)] w fun x w' => x = .returned (.int .u8 (bv ((leB ((bs.drop k).take 1)).setWidth 8))) ∧ Upd b 1 (.int .i64 (k + 1 : Nat)) w w' := by
  have HR := Lib.hid hR
  have hmf : ∀ (fn : Fn) (first cap : Array Value) (w : World), (Instr.makeFunc fn first cap).run Try.prog w = .ok (.func fn first cap) w := fun _ _ _ _ => rfl
  have HM := Lib.hid hm
  have HT := Lib.hid (two_new w (some ⟨b, 0, none⟩) (.int .u8 0) 106 5)
  clear hR hm
  go_enter_defers Try.func99, Try.ntmps99
  go_wp2_with fail
  refine (low_ok b bs k 1 _ (HR.out.on HT.out.below) HM.out hs (by omega)).mono ?_
  rintro x w1 ⟨rfl, hu⟩
  have HU := Lib.hid hu
  obtain ⟨cr, cn, cf⟩ := HT.out.but HR.out.lt hu.but
  clear hu
  go_wp2_with fail
  have cr' : (w1.setCell ⟨w.heap.size + 1, 0, none⟩ (.int .u8 (bv ((leB ((bs.drop k).take 1)).setWidth 8)))).cell? ⟨w.heap.size, 0, none⟩ = some (.pointer (some ⟨b, 0, none⟩)) := by
    rw [World.cell?_setCell_other _ _ _ _ (by intro e; injection e; omega)]; exact cr
  refine leaves_cons (f := 119) (args := #[.pointer (some ⟨w.heap.size, 0, none⟩), .pointer (some ⟨w.heap.size + 1, 0, none⟩)]) (by simp) (by simp [go_sem]) ?_
  refine (idle_byte _ _ _ _ cr').mono ?_
  rintro e u' w'' ⟨rfl, rfl, rfl⟩
  have cn' : (w1.setCell ⟨w.heap.size + 1, 0, none⟩ (.int .u8 (bv ((leB ((bs.drop k).take 1)).setWidth 8)))).cell? ⟨w.heap.size + 1, 0, none⟩ = some (.int .u8 (bv ((leB ((bs.drop k).take 1)).setWidth 8))) := World.cell?_setCell_same _ _ _ cn
  have HF : Upd b 1 (.int .i64 (k + 1 : Nat)) w (w1.setCell ⟨w.heap.size + 1, 0, none⟩ (.int .u8 (bv ((leB ((bs.drop k).take 1)).setWidth 8)))).drew := (HU.out.wrap HT.out.below HR.out.lt (by simp)).drew
  simp [Leaves, settle, results, Try.results99, go_sem, cn']
  exact HF

theorem bv_most (n : BitVec 64) : bv n ≤ bv 18446744073709551615#64 := by
  have := n.isLt
  have e : bv 18446744073709551615#64 = 18446744073709551615 := rfl
  rw [e]; unfold bv; omega
theorem bv_range' (u : BitVec 64) : 0 ≤ bv u ∧ bv u < 18446744073709551616 := by
  have := u.isLt
  unfold bv
  omega
set_option maxHeartbeats 1000000 in
set_option maxRecDepth 100000 in
theorem signed_ok (b : Nat) (bs : List (BitVec 8)) (k : Nat) (w : World) (hR : RdAt w b bs k 0) (hm : bs.length ≤ 140737488355328) (n : BitVec 64) (j : Nat) (hr : rv (bs.drop k) = (n, j, 0))  :
    Calls Try.prog 94 #[.pointer (some ⟨b, 0, none⟩)] w fun x w' => x = .returned (.int .i64 (zag (bv n))) ∧ Upd b 1 (.int .i64 (k + j : Nat)) w w' := by
  have HR := Lib.hid hR
  have HV := Lib.hid hr
  have hmf : ∀ (fn : Fn) (first cap : Array Value) (w : World), (Instr.makeFunc fn first cap).run Try.prog w = .ok (.func fn first cap) w := fun _ _ _ _ => rfl
  have HM := Lib.hid hm
  have HT := Lib.hid (two_new w (some ⟨b, 0, none⟩) (.int .i64 0) 106 2)
  clear hR hm hr
  go_enter_defers Try.func94, Try.ntmps94
  go_wp2_with fail
  refine (number_ok b bs k 18446744073709551615#64 _ (HR.out.on HT.out.below) HM.out n j HV.out (bv_most n)).mono ?_
  rintro x w1 ⟨rfl, hu⟩
  have HU := Lib.hid hu
  have HZ := Lib.hid (bv_range' n)
  obtain ⟨cr, cn, cf⟩ := HT.out.but HR.out.lt hu.but
  clear hu
  go_wp2_with fail
  refine (wire_zag_int _ _ HZ.out.1 HZ.out.2).mono ?_
  rintro x w' ⟨rfl, rfl⟩
  go_wp2_with fail
  have cr' : (w1.setCell ⟨w.heap.size + 1, 0, none⟩ (.int .i64 (zag (bv n)))).cell? ⟨w.heap.size, 0, none⟩ = some (.pointer (some ⟨b, 0, none⟩)) := by
    rw [World.cell?_setCell_other _ _ _ _ (by intro e; injection e; omega)]; exact cr
  refine leaves_cons (f := 113) (args := #[.pointer (some ⟨w.heap.size, 0, none⟩), .pointer (some ⟨w.heap.size + 1, 0, none⟩)]) (by simp) (by simp [go_sem]) ?_
  refine (idle_signed _ _ _ _ cr').mono ?_
  rintro e u' w'' ⟨rfl, rfl, rfl⟩
  have cn' : (w1.setCell ⟨w.heap.size + 1, 0, none⟩ (.int .i64 (zag (bv n)))).cell? ⟨w.heap.size + 1, 0, none⟩ = some (.int .i64 (zag (bv n))) := World.cell?_setCell_same _ _ _ cn
  have HF : Upd b 1 (.int .i64 (k + j : Nat)) w (w1.setCell ⟨w.heap.size + 1, 0, none⟩ (.int .i64 (zag (bv n)))).drew := (HU.out.wrap HT.out.below HR.out.lt (by simp)).drew
  simp [Leaves, settle, results, Try.results94, go_sem, cn']
  rw [← Int.natCast_add]
  exact HF

set_option maxHeartbeats 1000000 in
set_option maxRecDepth 100000 in
theorem signed_stop (b : Nat) (bs : List (BitVec 8)) (k bad : Nat) (w : World) (hR : RdAt w b bs k bad) (e : Nat) (he : e ≠ 0) (h : bad = 0 ∧ (rn bs k 18446744073709551615#64).2.2 = e ∨ bad = e) (hm : bs.length ≤ 140737488355328) :
    Calls Try.prog 94 #[.pointer (some ⟨b, 0, none⟩)] w fun x w' => x = .returned (.int .i64 0) ∧ Upd b 2 (.int .i64 e) w w' := by
  have HR := Lib.hid hR
  have HE := Lib.hid he
  have HH := Lib.hid h
  have hmf : ∀ (fn : Fn) (first cap : Array Value) (w : World), (Instr.makeFunc fn first cap).run Try.prog w = .ok (.func fn first cap) w := fun _ _ _ _ => rfl
  have HM := Lib.hid hm
  have HT := Lib.hid (two_new w (some ⟨b, 0, none⟩) (.int .i64 0) 106 2)
  clear hR hm he h
  go_enter_defers Try.func94, Try.ntmps94
  go_wp2_with fail
  refine (number_stop b bs k bad 18446744073709551615#64 _ (HR.out.on HT.out.below) e HE.out HH.out HM.out).mono ?_
  rintro x w1 ⟨rfl, hb⟩
  have B1 := Lib.hid hb
  have hu : But b _ w1 := (But.refl b _).of_below hb
  obtain ⟨cr, cn, cf⟩ := HT.out.but HR.out.lt hu
  have R1 := Lib.hid ((HR.out.on HT.out.below).on hb)
  clear hu hb
  go_wp2_with fail
  have hne : (⟨w.heap.size + 1, 0, none⟩ : Addr).block ≠ b := by have := HR.out.lt; simp; omega
  refine leaves_cons (f := 113) (args := #[.pointer (some ⟨w.heap.size, 0, none⟩), .pointer (some ⟨w.heap.size + 1, 0, none⟩)]) (by simp) (by simp [go_sem]) ?_
  refine (catch_signed _ _ b e _ _ [] w1 cr R1.out.at2 R1.out.free2 cn cf hne).mono ?_
  rintro x u' w'' ⟨rfl, rfl, ⟨⟨w2, hU, rfl⟩⟩⟩
  have cn2 : (w2.setCell ⟨w.heap.size + 1, 0, none⟩ (.int .i64 0)).cell? ⟨w.heap.size + 1, 0, none⟩ = some (.int .i64 0) := World.cell?_setCell_same _ _ _ (hU.but.cell (show w1.drew.cell? _ = _ from cn) hne)
  have HF : Upd b 2 (.int .i64 e) w (w2.setCell ⟨w.heap.size + 1, 0, none⟩ (.int .i64 0)) := hU.wrap ((below_trans HT.out.below B1.out).drew) HR.out.lt (by simp)
  simp [Leaves, settle, results, Try.results94, go_sem, cn2]
  exact HF

end Go.Proofs.Ytmkljmljbbijeaa

/-! The walks of the reader's String. -/
namespace Go.Proofs.Ytmkljmljbbijeaa
open Go.RowKit

theorem OwnB.but {w w' : World} {base c : Nat} {v : Value} {bs : List (BitVec 8)} (h : OwnB w base v bs) (hb : But c w w') (hc : c < base) : OwnB w' base v bs := by
  refine ⟨h.1, ?_⟩
  rcases h.2 with h0 | ⟨g, cap, cur, hv, hg, hh, r⟩
  · exact .inl h0
  · exact .inr ⟨g, cap, cur, hv, hg, (hb.block g (Array.getElem?_eq_some_iff.1 hh).1 (by omega)).trans hh, r⟩
theorem rs_end {bs s : List (BitVec 8)} {most : Int} {j : Nat} (h : rs bs most = (s, j, 0)) : j ≤ bs.length := by
  have hl := rv_le bs
  unfold rs at h
  split at h
  · cases h
  split at h
  · rename_i hne
    injection h with _ h
    injection h with _ h
    exact absurd h hne
  split at h
  · cases h
  split at h
  · cases h
  · injection h with _ h
    injection h with h _
    rename_i h1
    have : bv (rv bs).1 = (ix (rv bs).1 : Int) := rfl
    omega
theorem rs_err {bs s : List (BitVec 8)} {most : Int} {j e : Nat} (h : rs bs most = (s, j, e)) (he : e ≠ 0) : s = [] ∧ j = 0 := by
  unfold rs at h
  split at h
  · cases h; exact ⟨rfl, rfl⟩
  split at h
  · cases h; exact ⟨rfl, rfl⟩
  split at h
  · cases h; exact ⟨rfl, rfl⟩
  split at h
  · cases h; exact ⟨rfl, rfl⟩
  · cases h; exact absurd rfl he

set_option maxHeartbeats 1000000 in
set_option maxRecDepth 100000 in
theorem string_ok (b : Nat) (bs : List (BitVec 8)) (k : Nat) (most : Int) (w : World) (hR : RdAt w b bs k 0) (hm : bs.length ≤ 140737488355328) (hmost : -9223372036854775808 ≤ most ∧ most ≤ 9223372036854775807) (s : List (BitVec 8)) (j : Nat) (hr : rs (bs.drop k) most = (s, j, 0)) :
    Calls Try.prog 97 #[.pointer (some ⟨b, 0, none⟩), .int .i64 most] w fun x w' => ∃ v, x = .returned v ∧ OwnB w' w.heap.size v s ∧ Upd b 1 (.int .i64 (k + j : Nat)) w w' := by
  have HR := Lib.hid hR
  have HV := Lib.hid hr
  have HMo := Lib.hid hmost
  have HJ := Lib.hid (show k + j ≤ bs.length by have := rs_end hr; have := hR.le; simp at *; omega)
  have hmf : ∀ (fn : Fn) (first cap : Array Value) (w : World), (Instr.makeFunc fn first cap).run Try.prog w = .ok (.func fn first cap) w := fun _ _ _ _ => rfl
  have HM := Lib.hid hm
  have HT := Lib.hid (two_new w (some ⟨b, 0, none⟩) (.slice none 0 0) 106 31)
  clear hR hm hr hmost
  go_enter_defers Try.func97, Try.ntmps97
  go_wp2_with fail
  refine (reader_rest b bs k _ (HR.out.on HT.out.below)).mono ?_
  rintro x w1 ⟨ao, cap, rfl, hb, hn, hcl, hcm, nd, hw1⟩
  have B1 := Lib.hid (below_trans HT.out.below (show Below _ _ w1 by rw [hw1]; exact below_drewN _ _))
  have HB1 := Lib.hid (show BytesAt w1 ao (bs.drop k) by rw [hw1]; exact hb.drewN nd)
  have HN := Lib.hid hn
  have HL := Lib.hid (show (bs.drop k).length = bs.length - k by simp)
  have R1 := Lib.hid ((HR.out.on HT.out.below).on (show Below _ _ w1 by rw [hw1]; exact below_drewN _ _))
  have T1 := Lib.hid (show Two w w1 (some ⟨b, 0, none⟩) (.slice none 0 0) by rw [hw1]; exact ⟨HT.out.below.trans (below_drewN _ _ |>.mono HT.out.below.size), HT.out.recv, HT.out.res, HT.out.free⟩)
  clear hb hn hw1 HT
  go_wp2_with fail
  refine (read_string_to ao (bs.drop k) _ cap most _ _ HB1.out HL.out hcl HN.out hcm (by have := HM.out; omega) HMo.out HV.out).mono ?_
  rintro x w2 ⟨v, rfl, hO, hb2⟩
  have O2 := Lib.hid (show OwnB w2 w1.heap.size v s from hO)
  obtain ⟨av, cv, hv, -, -, -, -, -⟩ := O2.out.slice
  have B2 := Lib.hid (below_trans B1.out hb2)
  have R2 := Lib.hid (R1.out.on hb2)
  have W12 := Lib.hid hb2
  have cn := cell_keep hb2 T1.out.res
  have cf := (hb2.frozen (block_lt_of_cell T1.out.res)).trans T1.out.free
  have cr := cell_keep hb2 T1.out.recv
  have WS := Lib.hid (show w.heap.size + 1 < w1.heap.size from block_lt_of_cell T1.out.res)
  subst hv
  clear hO hb2
  have cr' : (w2.setCell ⟨w.heap.size + 1, 0, none⟩ (.slice av s.length cv)).cell? ⟨w.heap.size, 0, none⟩ = some (.pointer (some ⟨b, 0, none⟩)) := by
    rw [World.cell?_setCell_other _ _ _ _ (by intro e; injection e; omega)]; exact cr
  have U3 : Hid (But (w.heap.size + 1) w2 (w2.setCell ⟨w.heap.size + 1, 0, none⟩ (.slice av s.length cv))) := (But.refl _ w2).setB 0 _
  have B3 := Lib.hid (U3.out.below B2.out (by omega) B2.out.size)
  have R3 := Lib.hid (HR.out.on B3.out)
  have O3 := Lib.hid (O2.out.but U3.out (by have := WS.out; omega))
  have c3 : (w2.setCell ⟨w.heap.size + 1, 0, none⟩ (.slice av s.length cv)).cell? ⟨w.heap.size + 1, 0, none⟩ = some (.slice av s.length cv) := World.cell?_setCell_same _ _ _ cn
  have f3 : (w2.setCell ⟨w.heap.size + 1, 0, none⟩ (.slice av s.length cv)).frozen? ⟨w.heap.size + 1, 0, none⟩ = false := by rw [World.frozen?_setCell]; exact cf
  clear cr
  go_wp2_with fail
  refine (reader_took b bs k j 0 _ R3.out HJ.out HM.out).mono ?_
  rintro x w4 ⟨rfl, hU⟩
  have hb1 : (⟨w.heap.size, 0, none⟩ : Addr).block ≠ b := by have := HR.out.lt; simp; omega
  have hb2 : (⟨w.heap.size + 1, 0, none⟩ : Addr).block ≠ b := by have := HR.out.lt; simp; omega
  have cr4 := hU.but.cell cr' hb1
  have c4 := hU.but.cell c3 hb2
  have f4 := (hU.but.frozen (block_lt_of_cell c3) hb2).trans f3
  have O4 := Lib.hid (O3.out.but hU.but (by have := HR.out.lt; have := WS.out; omega))
  have U4 := Lib.hid (hU.from' B3.out HR.out.lt)
  clear hU c3 f3 cr' cf cn
  go_wp2_with fail
  have cr5 : (w4.setCell ⟨w.heap.size + 1, 0, none⟩ (.slice av s.length cv)).cell? ⟨w.heap.size, 0, none⟩ = some (.pointer (some ⟨b, 0, none⟩)) := by
    rw [World.cell?_setCell_other _ _ _ _ (by intro e; injection e; omega)]; exact cr4
  have c5 : (w4.setCell ⟨w.heap.size + 1, 0, none⟩ (.slice av s.length cv)).cell? ⟨w.heap.size + 1, 0, none⟩ = some (.slice av s.length cv) := World.cell?_setCell_same _ _ _ c4
  refine leaves_cons (f := 115) (args := #[.pointer (some ⟨w.heap.size, 0, none⟩), .pointer (some ⟨w.heap.size + 1, 0, none⟩)]) (by simp) (by simp [go_sem]) ?_
  refine (idle_string _ _ _ _ cr5).mono ?_
  rintro e u' w'' ⟨rfl, rfl, rfl⟩
  have HO : OwnB (w4.setCell ⟨w.heap.size + 1, 0, none⟩ (.slice av s.length cv)).drew w.heap.size (.slice av s.length cv) s := ((O4.out.but ((But.refl _ w4).setB 0 _) (by have := WS.out; omega)).base (by have := WS.out; omega))
  have HF : Upd b 1 (.int .i64 (k + j : Nat)) w (w4.setCell ⟨w.heap.size + 1, 0, none⟩ (.slice av s.length cv)).drew := (⟨U4.out.but.setNew _ (by simp) _, (World.cell?_setCell_other _ _ _ _ (by intro e; injection e; omega)).trans U4.out.val, fun i hi => (World.cell?_setCell_other _ _ _ _ (by intro e; injection e; omega)).trans (U4.out.others i hi), fun i => by rw [World.frozen?_setCell]; exact U4.out.frozen i⟩ : Upd b 1 _ w (w4.setCell ⟨w.heap.size + 1, 0, none⟩ (.slice av s.length cv))).drew
  simp [Leaves, settle, results, Try.results97, go_sem, c5]
  rw [← Int.natCast_add]
  exact ⟨HO, HF⟩
theorem reader_rest_bad' (b : Nat) (bs : List (BitVec 8)) (k bad : Nat) (w : World) (hR : RdAt w b bs k bad) (hb : bad ≠ 0) :
    Calls Try.prog 116 #[.pointer (some ⟨b, 0, none⟩)] w fun e w' => e = .panicked [{ v := faultV bad, recovered := false }] ∧ Below w.heap.size w w' :=
  (reader_rest_bad b bs k bad w hR hb).mono fun _ _ ⟨hx, hw⟩ => ⟨hx, hw ▸ Below.refl _ _⟩
set_option maxHeartbeats 1000000 in
set_option maxRecDepth 100000 in
theorem string_bad (b : Nat) (bs : List (BitVec 8)) (k : Nat) (most : Int) (w : World) (e : Nat) (hR : RdAt w b bs k e) (he : e ≠ 0) :
    Calls Try.prog 97 #[.pointer (some ⟨b, 0, none⟩), .int .i64 most] w fun x w' => x = .returned (.slice none 0 0) ∧ Upd b 2 (.int .i64 e) w w' := by
  have HR := Lib.hid hR
  have HE := Lib.hid he
  have hmf : ∀ (fn : Fn) (first cap : Array Value) (w : World), (Instr.makeFunc fn first cap).run Try.prog w = .ok (.func fn first cap) w := fun _ _ _ _ => rfl
  have HT := Lib.hid (two_new w (some ⟨b, 0, none⟩) (.slice none 0 0) 106 31)
  clear hR he
  go_enter_defers Try.func97, Try.ntmps97
  go_wp2_with fail
  refine (reader_rest_bad' b bs k e _ (HR.out.on HT.out.below) HE.out).mono ?_
  rintro x w1 ⟨rfl, hb⟩
  have B1 := Lib.hid hb
  have hu : But b _ w1 := (But.refl b _).of_below hb
  obtain ⟨cr, cn, cf⟩ := HT.out.but HR.out.lt hu
  have R1 := Lib.hid ((HR.out.on HT.out.below).on hb)
  clear hu hb
  go_wp2_with fail
  have hne : (⟨w.heap.size + 1, 0, none⟩ : Addr).block ≠ b := by have := HR.out.lt; simp; omega
  refine leaves_cons (f := 115) (args := #[.pointer (some ⟨w.heap.size, 0, none⟩), .pointer (some ⟨w.heap.size + 1, 0, none⟩)]) (by simp) (by simp [go_sem]) ?_
  refine (catch_string _ _ b e _ _ [] w1 cr R1.out.at2 R1.out.free2 cn cf hne).mono ?_
  rintro x u' w'' ⟨rfl, rfl, ⟨⟨w2, hU, rfl⟩⟩⟩
  have cn2 : (w2.setCell ⟨w.heap.size + 1, 0, none⟩ (.slice none 0 0)).cell? ⟨w.heap.size + 1, 0, none⟩ = some (.slice none 0 0) := World.cell?_setCell_same _ _ _ (hU.but.cell (show w1.drew.cell? _ = _ from cn) hne)
  have HF : Upd b 2 (.int .i64 e) w (w2.setCell ⟨w.heap.size + 1, 0, none⟩ (.slice none 0 0)) := hU.wrap ((below_trans HT.out.below B1.out).drew) HR.out.lt (by simp)
  simp [Leaves, settle, results, Try.results97, go_sem, cn2]
  exact HF

set_option maxHeartbeats 1000000 in
set_option maxRecDepth 100000 in
theorem string_err (b : Nat) (bs : List (BitVec 8)) (k : Nat) (most : Int) (w : World) (hR : RdAt w b bs k 0) (hm : bs.length ≤ 140737488355328) (hmost : -9223372036854775808 ≤ most ∧ most ≤ 9223372036854775807) (e : Nat) (he : e ≠ 0) (hr : rs (bs.drop k) most = ([], 0, e)) :
    Calls Try.prog 97 #[.pointer (some ⟨b, 0, none⟩), .int .i64 most] w fun x w' => x = .returned (.slice none 0 0) ∧ Upd b 2 (.int .i64 e) w w' := by
  have HE := Lib.hid he
  have HR := Lib.hid hR
  have HV := Lib.hid hr
  have HMo := Lib.hid hmost
  have hmf : ∀ (fn : Fn) (first cap : Array Value) (w : World), (Instr.makeFunc fn first cap).run Try.prog w = .ok (.func fn first cap) w := fun _ _ _ _ => rfl
  have HM := Lib.hid hm
  have HT := Lib.hid (two_new w (some ⟨b, 0, none⟩) (.slice none 0 0) 106 31)
  clear hR hm hr hmost he
  go_enter_defers Try.func97, Try.ntmps97
  go_wp2_with fail
  refine (reader_rest b bs k _ (HR.out.on HT.out.below)).mono ?_
  rintro x w1 ⟨ao, cap, rfl, hb, hn, hcl, hcm, nd, hw1⟩
  have B1 := Lib.hid (below_trans HT.out.below (show Below _ _ w1 by rw [hw1]; exact below_drewN _ _))
  have HB1 := Lib.hid (show BytesAt w1 ao (bs.drop k) by rw [hw1]; exact hb.drewN nd)
  have HN := Lib.hid hn
  have HL := Lib.hid (show (bs.drop k).length = bs.length - k by simp)
  have R1 := Lib.hid ((HR.out.on HT.out.below).on (show Below _ _ w1 by rw [hw1]; exact below_drewN _ _))
  have T1 := Lib.hid (show Two w w1 (some ⟨b, 0, none⟩) (.slice none 0 0) by rw [hw1]; exact ⟨HT.out.below.trans (below_drewN _ _ |>.mono HT.out.below.size), HT.out.recv, HT.out.res, HT.out.free⟩)
  clear hb hn hw1 HT
  go_wp2_with fail
  refine (read_string_to ao (bs.drop k) _ cap most _ _ HB1.out HL.out hcl HN.out hcm (by have := HM.out; omega) HMo.out HV.out).mono ?_
  rintro x w2 ⟨v, rfl, hO, hb2⟩
  have O2 := Lib.hid (show OwnB w2 w1.heap.size v [] from hO)
  obtain ⟨av, cv, hv, -, -, -, -, -⟩ := O2.out.slice
  have B2 := Lib.hid (below_trans B1.out hb2)
  have R2 := Lib.hid (R1.out.on hb2)
  have W12 := Lib.hid hb2
  have cn := cell_keep hb2 T1.out.res
  have cf := (hb2.frozen (block_lt_of_cell T1.out.res)).trans T1.out.free
  have cr := cell_keep hb2 T1.out.recv
  have WS := Lib.hid (show w.heap.size + 1 < w1.heap.size from block_lt_of_cell T1.out.res)
  rw [List.length_nil] at hv
  subst hv
  clear hO hb2
  have cr' : (w2.setCell ⟨w.heap.size + 1, 0, none⟩ (.slice av 0 cv)).cell? ⟨w.heap.size, 0, none⟩ = some (.pointer (some ⟨b, 0, none⟩)) := by
    rw [World.cell?_setCell_other _ _ _ _ (by intro e; injection e; omega)]; exact cr
  have U3 : Hid (But (w.heap.size + 1) w2 (w2.setCell ⟨w.heap.size + 1, 0, none⟩ (.slice av 0 cv))) := (But.refl _ w2).setB 0 _
  have B3 := Lib.hid (U3.out.below B2.out (by omega) B2.out.size)
  have R3 := Lib.hid (HR.out.on B3.out)
  have O3 := Lib.hid (O2.out.but U3.out (by have := WS.out; omega))
  have c3 : (w2.setCell ⟨w.heap.size + 1, 0, none⟩ (.slice av 0 cv)).cell? ⟨w.heap.size + 1, 0, none⟩ = some (.slice av 0 cv) := World.cell?_setCell_same _ _ _ cn
  have f3 : (w2.setCell ⟨w.heap.size + 1, 0, none⟩ (.slice av 0 cv)).frozen? ⟨w.heap.size + 1, 0, none⟩ = false := by rw [World.frozen?_setCell]; exact cf
  clear cr
  go_wp2_with fail
  refine (reader_took_bad _ _ e _ HE.out).mono ?_
  rintro x w4 ⟨rfl, rfl⟩
  have hne : (⟨w.heap.size + 1, 0, none⟩ : Addr).block ≠ b := by have := HR.out.lt; simp; omega
  clear O3 O2 cf cn
  go_wp2_with fail
  refine leaves_cons (f := 115) (args := #[.pointer (some ⟨w.heap.size, 0, none⟩), .pointer (some ⟨w.heap.size + 1, 0, none⟩)]) (by simp) (by simp [go_sem]) ?_
  refine (catch_string _ _ b e _ _ [] _ cr' R3.out.at2 R3.out.free2 c3 f3 hne).mono ?_
  rintro x u' w'' ⟨rfl, rfl, ⟨⟨w5, hU, rfl⟩⟩⟩
  have cn2 : (w5.setCell ⟨w.heap.size + 1, 0, none⟩ (.slice none 0 0)).cell? ⟨w.heap.size + 1, 0, none⟩ = some (.slice none 0 0) := World.cell?_setCell_same _ _ _ (hU.but.cell (show (World.drew _).cell? _ = _ from c3) hne)
  have HF : Upd b 2 (.int .i64 e) w (w5.setCell ⟨w.heap.size + 1, 0, none⟩ (.slice none 0 0)) := hU.wrap (B3.out.drew) HR.out.lt (by simp)
  simp [Leaves, settle, results, Try.results97, go_sem, cn2]
  exact HF

/-- What stops a reading of a string. -/
theorem string_stop (b : Nat) (bs : List (BitVec 8)) (k bad : Nat) (most : Int) (w : World) (hR : RdAt w b bs k bad) (hm : bs.length ≤ 140737488355328) (hmost : -9223372036854775808 ≤ most ∧ most ≤ 9223372036854775807) (e : Nat) (he : e ≠ 0) (h : bad = 0 ∧ (rs (bs.drop k) most).2.2 = e ∨ bad = e) :
    Calls Try.prog 97 #[.pointer (some ⟨b, 0, none⟩), .int .i64 most] w fun x w' => x = .returned (.slice none 0 0) ∧ Upd b 2 (.int .i64 e) w w' := by
  rcases h with ⟨rfl, h⟩ | rfl
  · obtain ⟨s, j, e', hr⟩ : ∃ s j e', rs (bs.drop k) most = (s, j, e') := ⟨_, _, _, rfl⟩
    rw [hr] at h
    simp only at h
    subst h
    obtain ⟨rfl, rfl⟩ := rs_err hr he
    exact string_err b bs k most w hR hm hmost e' he hr
  · exact string_bad b bs k most w bad hR he
end Go.Proofs.Ytmkljmljbbijeaa

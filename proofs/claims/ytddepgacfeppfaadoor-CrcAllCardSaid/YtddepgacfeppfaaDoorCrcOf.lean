/- The walks of math/bits.TrailingZeros32 and of (*square).of: a map done to a register, lowest bit by lowest bit. -/
import Derived.Test.YtddepgacfeppfaaDoorCrcRef
import Derived.Test.YtddepgacfeppfaaDoorPlainSquare
import Derived.BigQuiet
namespace Go.Proofs.YtddepgacfeppfaaDoor
open Go.RowKit

theorem bv_neg32 (a : BitVec 32) : IntKind.u32.wrap (-(bv a)) = bv (-a) := by
  unfold bv; rw [IntKind.wrap_u32', BitVec.toNat_neg]; have := a.isLt; omega
theorem bv_mul_tz (a : BitVec 32) : IntKind.u32.wrap (bv a * 125613361) = bv (a * 125613361#32) := by
  unfold bv; rw [IntKind.wrap_u32', BitVec.toNat_mul]
  show ((a.toNat : Int) * 125613361) % 4294967296 = ((a.toNat * 125613361 % 4294967296 : Nat) : Int)
  omega
theorem bv_pred32 (a : BitVec 32) : IntKind.u32.wrap (bv a - 1) = bv (a - 1#32) := by
  unfold bv; rw [IntKind.wrap_u32', BitVec.toNat_sub]; have := a.isLt
  show ((a.toNat : Int) - 1) % 4294967296 = (((4294967296 - 1 + a.toNat) % 4294967296 : Nat) : Int)
  omega
attribute [local go_sem] bv_neg32 bv_mul_tz bv_pred32

/-- The library's table of lowest bits. -/
def DeB (w : World) : Prop := ∀ i, i < 32 → w.cell? ⟨0, i, none⟩ = some (.int .u8 ((Lib.deBruijn32tab.getD i 0 : Nat) : Int))
theorem DeB.below {w w' : World} (h : DeB w) (hb : Below w.heap.size w w') : DeB w' := fun i hi => cell_keep hb (h i hi)

theorem trailing (c : BitVec 32) (h : c ≠ 0#32) (w : World) (hD : DeB w) :
    Calls Tryd.prog 31 #[.int .u32 (bv c)] w fun e w' => e = .returned (.int .i64 (Crc.ctz c : Nat)) ∧ w = w' := by
  obtain ⟨h1, h2⟩ := Crc.lowest c h
  have h0 : (c == 0#32) = false := by simpa using h
  have hc := hD _ h1
  rw [h2] at hc
  have hlt : bv (((c &&& -c) * 125613361#32) >>> 27) < 32 := by unfold bv; omega
  have hix : w.cell? ⟨0, ix (((c &&& -c) * 125613361#32) >>> 27), none⟩ = some (.int .u8 ((Crc.ctz c : Nat) : Int)) := hc
  have hk := Crc.ctz_lt c h
  clear hc h1 h2 h hD
  go_enter Tryd.func31, Tryd.ntmps31
  go_wp2_with fail
  go_ret
  exact ⟨rfl, rfl⟩

/-- The registers of a map in block b. -/
def SqAt (w : World) (b : Nat) (f : Nat → BitVec 32) : Prop := ∀ i, i < 32 → w.cell? ⟨b, i, none⟩ = some (.int .u32 (bv (f i)))
theorem SqAt.below {w w' : World} {b : Nat} {f : Nat → BitVec 32} (h : SqAt w b f) (hb : Below w.heap.size w w') : SqAt w' b f := fun i hi => cell_keep hb (h i hi)

theorem DeB.drewN {w : World} (h : DeB w) (n : Nat) : DeB (w.drewN n) := h
theorem SqAt.drewN {w : World} {b : Nat} {f : Nat → BitVec 32} (h : SqAt w b f) (n : Nat) : SqAt (w.drewN n) b f := h

set_option maxRecDepth 100000 in
theorem square_of (b : Nat) (f : Nat → BitVec 32) (c : BitVec 32) (w : World) (hD : DeB w) (hS : SqAt w b f) :
    Calls Tryd.prog 28 #[.pointer (some ⟨b, 0, none⟩), .int .u32 (bv c)] w fun e w' => e = .returned (.int .u32 (bv (Crc.ap f c))) ∧ ∃ n, w' = w.drewN n := by
  have HD := Lib.hid hD
  have HS := Lib.hid hS
  clear hD hS
  go_enter Tryd.func28, Tryd.ntmps28
  go_wp2_with fail
  go_loopw [1, 5] (fun r o wr => ∃ x y : BitVec 32, r = .int .u32 (bv x) ∧ o = .int .u32 (bv y) ∧ y ^^^ Crc.ap f x = Crc.ap f c ∧ ∃ n, wr = w.drewN n) (fun r _ _ => (intOf r).toNat)
  case atStart => exact ⟨c, 0#32, rfl, rfl, by simp, 0, rfl⟩
  case round =>
    obtain ⟨x, y, rfl, rfl, hxy, n, rfl⟩ := hrel
    have Hxy := Lib.hid hxy
    clear hxy
    by_cases hx : x = 0#32
    · subst hx
      go_wp2_with fail
      go_ret
      refine ⟨?_, n, rfl⟩
      have := Hxy.out
      rw [Crc.ap_zero, BitVec.xor_zero] at this
      rw [← this]; rfl
    · have hx0 : (x != 0#32) = true := by simpa using hx
      have hk := Crc.ctz_lt x hx
      have hcl := Lib.hid (Crc.clear_lowest x hx)
      have hap := Lib.hid (Crc.ap_clear f x hx)
      have hcell : w.cell? ⟨b, Crc.ctz x, none⟩ = some (.int .u32 (bv (f (Crc.ctz x)))) := HS.out _ hk
      have Hx := Lib.hid hx
      clear hx
      go_wp2_with fail
      go_quiet (first | (go_at_call 31; exact (trailing x Hx.out _ (HD.out.drewN _)).mono fun _ _ ⟨he, hw⟩ => ⟨he, _, hw.symm⟩))
      rw [World.drewN_drewN]
      go_wp2_with fail
      go_roundw
      case rel =>
        refine ⟨x &&& (x - 1#32), y ^^^ f (Crc.ctz x), rfl, rfl, ?_, n + nq, rfl⟩
        rw [← Hxy.out, hap.out, BitVec.xor_assoc, BitVec.xor_comm (f (Crc.ctz x))]
      case measure =>
        have := hcl.out.2
        simp only [intOf]
        rw [bv_toNat, bv_toNat]; exact this
end Go.Proofs.YtddepgacfeppfaaDoor

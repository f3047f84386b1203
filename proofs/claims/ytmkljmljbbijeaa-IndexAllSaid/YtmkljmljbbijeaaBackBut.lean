/- The walk of flumelaw1's Back once more: it turns the lent block alone. -/
import Derived.Test.YtmkljmljbbijeaaLent
import Derived.Test.YtmkljmljbbijeaaWireRecover
namespace Go.Proofs.Ytmkljmljbbijeaa
open Go.RowKit

/-- The lent bytes behind k rounds of Back: from the k-th on as they were; no other block has turned. -/
structure RestG (w wr : World) (g : Nat) (bs : List (BitVec 8)) (k : Nat) : Prop where
  but : But g w wr
  there : wr.there g 0 (bs.length + 2)
  bytes : ∀ i, k ≤ i → i < bs.length → wr.cell? ⟨g, i, none⟩ = some (.int .u8 (bv (at8 bs i)))
theorem RestG.next {w wr : World} {g k : Nat} {bs : List (BitVec 8)} (h : RestG w wr g bs k) (v : Value) : RestG w (wr.setCell ⟨g, k, none⟩ v) g bs (k + 1) :=
  ⟨h.but.setB k v, there_setCell h.there _ _, fun i hi hi2 => by
    rw [World.cell?_setCell_other _ _ _ _ (by intro h; injection h; omega)]; exact h.bytes i (by omega) hi2⟩
theorem RestG.drewN {w wr : World} {g k : Nat} {bs : List (BitVec 8)} (h : RestG w wr g bs k) (n : Nat) : RestG w (wr.drewN n) g bs k :=
  ⟨h.but.of_below (below_drewN _ _), h.there, h.bytes⟩

set_option maxRecDepth 100000 in
theorem back_but (w0 : World) (g cap : Nat) (ao : Option Addr) (bs : List (BitVec 8)) (cb : Nat) (w : World) (hm : Mine w0 w g (bs ++ [171#8, 172#8])) (hc : bs.length + 2 ≤ cap) (hcm : cap ≤ maxLen) (hb : ∀ w', But g w w' → BytesAt w' ao bs) :
    Calls Try.prog 34 #[.slice (some ⟨g, 0, none⟩) bs.length cap, .slice ao bs.length cb] w fun e w' => e = .returned (.bool true) ∧ But g w w' := by
  have HB := Lib.hid hb
  have hl2 : (bs ++ [171#8, 172#8]).length = bs.length + 2 := by simp
  have c1 : w.cell? ⟨g, bs.length, none⟩ = some (.int .u8 171) := by
    have h := hm.bytes bs.length (by omega)
    rw [show at8 (bs ++ [171#8, 172#8]) bs.length = 171#8 from at8_right bs _ 0] at h
    exact h
  have c2 : w.cell? ⟨g, bs.length + 1, none⟩ = some (.int .u8 172) := by
    have h := hm.bytes (bs.length + 1) (by omega)
    rw [show at8 (bs ++ [171#8, 172#8]) (bs.length + 1) = 172#8 from at8_right bs _ 1] at h
    exact h
  have HR : Hid (RestG w w g bs 0) := ⟨But.refl _ _, hl2 ▸ hm.there, fun i _ hi => by rw [hm.bytes i (by omega), at8_left hi]⟩
  unfold maxLen at hcm
  clear hb hm hl2
  go_enter Try.func34, Try.ntmps34
  go_wp2_with fail
  clear c1 c2
  go_loopw [5, 6] (fun o i wr => ∃ k : Nat, k ≤ bs.length ∧ i = .int .i64 k ∧ o = .bool true ∧ RestG w wr g bs k) (fun _ i _ => bs.length - (intOf i).toNat)
  case atStart => exact ⟨0, by omega, rfl, rfl, HR.out⟩
  case round =>
    obtain ⟨k, hk, rfl, rfl, hR⟩ := hrel
    have HK := Lib.hid hR
    clear hR
    by_cases hlt : k < bs.length
    · obtain ⟨b, off, rfl, hcb⟩ := (HB.out _ HK.out.but) k hlt
      have hcg := HK.out.bytes k (Nat.le_refl _) hlt
      have hfz := (HK.out.there k (by omega)).2
      rw [Nat.zero_add] at hfz
      go_wp2_with fail
      go_quiet (fail)
      go_wp2_with fail
      go_roundw
      case rel => exact ⟨k + 1, by omega, by go_num, rfl, (HK.out.drewN nq).next _⟩
      case measure => simp [intOf]; omega
    · have hge : (bs.length : Int) ≤ (k : Int) := by omega
      go_wp2_with fail
      go_ret
      exact ⟨rfl, HK.out.but⟩

end Go.Proofs.Ytmkljmljbbijeaa

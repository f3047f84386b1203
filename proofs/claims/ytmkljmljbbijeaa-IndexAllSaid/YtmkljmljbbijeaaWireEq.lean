/- The walk of flumelaw1's Eq: the same bytes? -/
import Derived.Test.YtmkljmljbbijeaaBytes
import Derived.BigQuiet
namespace Go.Proofs.Ytmkljmljbbijeaa
open Go.RowKit

theorem eq_take_all {xs ys : List (BitVec 8)} {n : Nat} (hx : xs.length = n) (hy : ys.length = n) (h : ∀ i, i < n → at8 xs i = at8 ys i) : xs = ys := by
  apply List.ext_getElem (by omega)
  intro i h1 h2
  have := h i (by omega)
  rwa [at8_get h1, at8_get h2] at this

set_option maxRecDepth 100000 in
theorem eq_bytes (a b : Option Addr) (xs ys : List (BitVec 8)) (ca cb : Nat) (w : World) (ha : BytesAt w a xs) (hb : BytesAt w b ys) (hm : xs.length ≤ 140737488355328) :
    Calls Try.prog 23 #[.slice a xs.length ca, .slice b ys.length cb] w fun e w' => e = .returned (.bool (decide (xs = ys))) ∧ ∃ n, w' = w.drewN n := by
  by_cases hl : xs.length = ys.length
  · have HA := Lib.hid ha
    have HB := Lib.hid hb
    clear ha hb
    rw [← hl]
    have HY : Hid (ys.length = xs.length) := hl.symm
    clear hl
    go_enter Try.func23, Try.ntmps23
    go_wp2_with fail
    go_loopw [5] (fun i wr => ∃ k : Nat, k ≤ xs.length ∧ i = .int .i64 k ∧ (∃ n, wr = w.drewN n) ∧ Hid (∀ j, j < k → at8 xs j = at8 ys j)) (fun i _ => xs.length - (intOf i).toNat)
    case atStart => exact ⟨0, by omega, rfl, ⟨0, rfl⟩, fun j hj => by omega⟩
    case round =>
      obtain ⟨k, hk, rfl, ⟨n, rfl⟩, hS⟩ := hrel
      by_cases hlt : k < xs.length
      · obtain ⟨b1, o1, rfl, hc1⟩ := HA.out k hlt
        obtain ⟨b2, o2, rfl, hc2⟩ := HB.out k (by have := HY.out; omega)
        have kc1 : (w.drewN n).cell? ⟨b1, o1 + k, none⟩ = some (.int .u8 (bv (at8 xs k))) := hc1
        have kc2 : (w.drewN n).cell? ⟨b2, o2 + k, none⟩ = some (.int .u8 (bv (at8 ys k))) := hc2
        by_cases he : at8 xs k = at8 ys k
        · have t1 : (at8 xs k != at8 ys k) = false := by simp [he]
          have HE := Lib.hid he
          clear he
          go_wp2_with fail
          go_quiet (fail)
          go_wp2_with fail
          go_roundw
          case rel => exact ⟨k + 1, by omega, by go_num, ⟨n + nq, rfl⟩, fun j hj => by
            rcases Nat.lt_or_ge j k with h | h
            · exact hS.out j h
            · obtain rfl : j = k := by omega
              exact HE.out⟩
          case measure => simp [intOf]; omega
        · have t1 : (at8 xs k != at8 ys k) = true := by simp [he]
          have HE : Hid (¬ xs = ys) := fun h => he (by rw [h])
          clear he
          go_wp2_with fail
          go_quiet (fail)
          go_wp2_with fail
          go_ret
          exact ⟨by rw [decide_eq_false HE.out]; rfl, n + nq, by simp [go_sem]⟩
      · obtain rfl : k = xs.length := by omega
        have HE := Lib.hid (eq_take_all rfl HY.out hS.out)
        go_wp2_with fail
        go_ret
        exact ⟨by rw [decide_eq_true HE.out]; rfl, n, rfl⟩
  · have HE : Hid (¬ xs = ys) := fun h => hl (by rw [h])
    clear ha hb
    go_enter Try.func23, Try.ntmps23
    go_wp2_with fail
    go_ret
    exact ⟨by rw [decide_eq_false HE.out]; rfl, 0, rfl⟩
end Go.Proofs.Ytmkljmljbbijeaa

/- The walk of sort.Search, for any closure that keeps what was there. -/
import Derived.Test.YtmkljmljbbijeaaBytes
import Derived.BigQuiet
import Derived.Shelf.Abstract
namespace Go.Proofs.Ytmkljmljbbijeaa
open Go.RowKit

set_option maxRecDepth 100000 in
theorem sort_search (g : Nat) (cb : Array Value) (n : Nat) (p : Nat → Bool) (w : World) (eg : ∀ args w, (callFunc g args).run Try.prog w = .ok (.enter g args) w) (hn : n ≤ 140737488355328)
    (hf : ∀ (w' : World) (i : Nat), Below w.heap.size w w' → i < n → Calls Try.prog g (#[.int .i64 i] ++ cb) w' fun e w'' => e = .returned (.bool (p i)) ∧ Below w'.heap.size w' w'')
    (hm : ∀ a b, a ≤ b → b < n → p a = true → p b = true) :
    Calls Try.prog 75 #[.int .i64 n, .func (.func g) #[] cb] w fun e w' => ∃ k : Nat, e = .returned (.int .i64 k) ∧ (k ≤ n ∧ (∀ t, t < k → p t = false) ∧ ∀ t, k ≤ t → t < n → p t = true) ∧ Below w.heap.size w w' := by
  have HF := Lib.hid hf
  have M := Lib.hid hm
  clear hf hm
  go_enter Try.func75, Try.ntmps75
  go_wp2_with fail
  go_loopw [5, 6] (fun s5 s6 wr => ∃ lo hi : Nat, s5 = .int .i64 lo ∧ s6 = .int .i64 hi ∧ lo ≤ hi ∧ hi ≤ n ∧ Hid (Below w.heap.size w wr) ∧ Hid ((∀ t, t < lo → p t = false) ∧ (∀ t, hi ≤ t → t < n → p t = true))) (fun s5 s6 _ => (intOf s6).toNat - (intOf s5).toNat)
  case atStart => exact ⟨0, n, rfl, rfl, Nat.zero_le _, Nat.le_refl _, Lib.hid (Below.refl _ _), Lib.hid ⟨fun t ht => absurd ht (Nat.not_lt_zero _), fun t h1 h2 => absurd h1 (by omega)⟩⟩
  case round =>
    obtain ⟨lo, hi, rfl, rfl, hlh, hin, HW, I⟩ := hrel
    by_cases hlt : lo < hi
    · obtain ⟨mid, hmid⟩ : ∃ mid, mid = (lo + hi) / 2 := ⟨_, rfl⟩
      have hc := HF.out wr mid HW.out (by omega)
      rw [show (mid : Int) = ((lo : Int) + (hi : Int)) / 2 by omega] at hc
      have em : Hid (((lo : Int) + (hi : Int)) / 2 = (mid : Int)) := Lib.hid (by omega)
      obtain ⟨b, hb⟩ : ∃ b, p mid = b := ⟨_, rfl⟩
      rw [hb] at hc
      have HP := Lib.hid hb
      have HM := Lib.hid hmid
      clear hb hmid
      cases b
      · go_wp2_with (go_at_fn g; refine hc.mono ?_; rintro e w' ⟨rfl, hb2⟩; have HW2 := Lib.hid (below_trans HW.out hb2); clear hb2)
        go_roundw
        case rel =>
          have I2 : ∀ t, t < mid + 1 → p t = false := fun t ht => by
            cases h : p t with
            | false => rfl
            | true =>
              have h3 := M.out t mid (by omega) (by have := HM.out; omega) h
              rw [HP.out] at h3
              cases h3
          exact ⟨mid + 1, hi, by rw [em.out]; rfl, rfl, by have := HM.out; omega, hin, HW2, Lib.hid ⟨I2, I.out.2⟩⟩
        case measure => have := HM.out; simp [intOf]; omega
      · go_wp2_with (go_at_fn g; refine hc.mono ?_; rintro e w' ⟨rfl, hb2⟩; have HW2 := Lib.hid (below_trans HW.out hb2); clear hb2)
        go_roundw
        case rel => exact ⟨lo, mid, rfl, by rw [em.out], by have := HM.out; omega, by have := HM.out; omega, HW2, Lib.hid ⟨I.out.1, fun t ht htn => M.out mid t ht htn HP.out⟩⟩
        case measure => have := HM.out; simp [intOf]; omega
    · obtain rfl : hi = lo := by omega
      go_wp2_with fail
      go_ret
      exact ⟨hi, rfl, ⟨hin, I.out.1, I.out.2⟩, HW.out⟩
end Go.Proofs.Ytmkljmljbbijeaa

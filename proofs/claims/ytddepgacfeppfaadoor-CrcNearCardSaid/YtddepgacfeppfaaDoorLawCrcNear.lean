/- CrcNear: for every input the law returns true, and each argument reads behind the call as it read before. Conditions: those of its row alone. -/
import Derived.Test.YtddepgacfeppfaaDoorCrcNear
import Derived.Test.YtddepgacfeppfaaDoorCrcLaid
namespace Go.Proofs.YtddepgacfeppfaaDoor.crcNear
open Go.ChangeShapes Go.WideShapes Go.ChangeAt Go.RowKit

set_option maxRecDepth 100000 in
theorem contract (H : Type) (enc : TypeId × Value → H) (W : World) (base : Nat) (args : Array Value) (ds gs : List (DataW H)) (before : List MemPlace)
    (hval : ∀ (j : Nat) t v, Tryd.f4.params[j]? = some t → args[j]? = some v → Value.okWide Tryd.prog W .any base t v)
    (hW : DataW.Whole enc Tryd.prog Tryd.f4.params.toList Rows.crcNearSpec.vars false W args.toList ds gs before)
    (hsz : (DataW.weightsEach Tryd.prog (Tryd.f4.params.toList ++ Rows.crcNearSpec.plain.varTypes Tryd.prog) (ds ++ gs)).all (· ≤ reachBytes) = true) (hL : laidMetH Tryd.prog Rows.crcNearRow.laid W) :
    Calls Tryd.prog 4 args W fun e W' => ∃ v, e = .returned v ∧ Rows.crcNearSpec.post enc Tryd.prog Tryd.f4 false true false false W args v W' := by
  have hW' := hW
  obtain ⟨p, q, hA0, hV, rfl, hfz, hnd⟩ := hW
  have hA : DataW.TrodAll enc Tryd.prog W 0 (fun _ => true) true Tryd.f4.params.toList args.toList ds p := hA0
  rw [Tryd.params4] at hA hval hsz
  obtain ⟨v0, vs0, d0, ds0, p0, q0, hargs, rfl, rfl, h0, r0⟩ := trodAll_cons hA
  obtain ⟨v1, vs1, d1, ds1, p1, q1, rfl, rfl, rfl, h1, r1⟩ := trodAll_cons r0
  obtain ⟨v2, vs2, d2, ds2, p2, q2, rfl, rfl, rfl, h2, r2⟩ := trodAll_cons r1
  obtain ⟨rfl, rfl, rfl⟩ := trodAll_nil r2
  obtain rfl : args = #[v0, v1, v2] := by cases args; simp_all
  obtain ⟨rfl, rfl⟩ := trodVars_none hV
  clear hA0
  obtain ⟨ao0, bs0, cap0, rfl, hb0, n0, l0, m0, e0⟩ := open_bytes (hval 0 22 v0 rfl rfl) h0
  have z0 : cap0 ≤ 140737488351232 := by
    rcases e0 with ⟨_, e⟩ | ⟨el, sp, rfl, e⟩
    · omega
    · have := sized_slice (j := 0) hsz rfl rfl Tryd.underlying22
      rw [bytesByte, Nat.mul_one, e] at this; exact this
  obtain ⟨x1, rfl, rfl, rfl, w1⟩ := open_int Tryd.underlying3 (hval 1 3 v1 rfl rfl) h1
  obtain ⟨x2, rfl, rfl, rfl, w2⟩ := open_int Tryd.underlying24 (hval 2 24 v2 rfl rfl) h2
  have hD : DeB W := deB_of_laid hL
  have walk : Calls Tryd.prog 4 #[Value.slice ao0 bs0.length cap0, Value.int .i64 x1, Value.int .u32 x2] W (TrueBelow W) := by
    obtain ⟨t, rfl⟩ := u32_bv w2
    by_cases h : bs0.length < 5 ∨ 200 < bs0.length ∨ t = 0#32
    · exact near_early ao0 bs0 cap0 x1 t W hD h
    · exact near_walk ao0 bs0 cap0 x1 t W hD hb0 n0 (by omega) (by omega) (fun e => h (.inr (.inr e))) (i64_range w1)
  refine walk.mono fun e W' ⟨he, hb⟩ => ⟨_, he, ?_⟩
  exact law_post Tryd.f4 Rows.crcNearSpec rfl rfl (by rw [Tryd.params4]; intro t ht; simp only [List.mem_cons, List.not_mem_nil, or_false] at ht; (repeat' (rcases ht with rfl | ht)) <;> (first | (subst ht) | skip) <;> exact ⟨by kernel_rfl, of_decide_eq_true (by kernel_rfl)⟩) hW' rfl rfl rfl hb

def input : Array Value := #[.slice none 0 0, .int .i64 0, .int .u32 0]
theorem laid_met (os : Os) : laidMet Tryd.prog Rows.crcNearRow.laid ((laidWorld os).forCall (fun _ _ => 0) ⟨#[], input, []⟩).memory :=
  laidMet_of_run' 8 (by kernel_rfl) (by kernel_rfl)
theorem reads (os : Os) {H : Type} (enc : TypeId × Value → H) : ∃ ds places, DataW.whole enc Tryd.prog ((laidWorld os).forCall (fun _ _ => 0) ⟨#[], input, []⟩).memory Tryd.f4.params.toList Rows.crcNearSpec.vars false input.toList 8 = some (ds, [], places) :=
  ⟨[.nil, .lit (.int .i64 0), .lit (.int .u32 0)], [], by kernel_rfl⟩

set_option maxRecDepth 100000 in
theorem lifted (os : Os) (started : os.Started) (H : Type) (enc : TypeId × Value → H) (F : Stop.Interp) :
    ReturnsInHanded {} Tryd.checked os 4 .any ((OpenSpec.ofChange Rows.crcNearSpec).preRow enc Tryd.prog Tryd.f4 Rows.crcNearRow.domain false Rows.crcNearRow.laid) (((OpenSpec.ofChange Rows.crcNearSpec).at F).post enc Tryd.prog Tryd.f4 false true false false) := by
  obtain ⟨dd, places, hx⟩ := reads os enc
  refine returnsInHanded_of_row (C := Tryd.checked) (s := OpenSpec.ofChange Rows.crcNearSpec) frame_own started (by kernel_rfl) Tryd.func4
    (witness_row_at (enc := enc) (C := Tryd.checked) false (laidWorld os) input rfl (by kernel_rfl) (by kernel_rfl) (by kernel_rfl)
      (OpenSpec.preRow_of_cond 8 hx (by kernel_rfl) (fun k hk => by cases hk) (by kernel_rfl) (laid_met os))) ?_
  intro W base args ds gs before hval hW _ _ hsz hL _ _
  exact contract H enc W base args ds gs before hval hW hsz hL

theorem said : Rows.CrcNearSaid :=
  OpenClaim.holds_of_cond 4 Tryd.f4 rfl rfl rfl rfl rfl rfl rfl ⟨rfl, rfl, rfl, rfl, rfl⟩ rfl rfl rfl rfl rfl (by kernel_rfl) Tryd.func4 (by kernel_rfl)
    (of_decide_eq_true (by kernel_rfl)) (by unfold Func.isWrapper; first | (rw [if_pos (by decide +kernel)]; kernel_rfl) | (rw [if_neg (by decide +kernel)]; exact ⟨rfl, rfl⟩))
    (fun os started H enc _ F => by rw [OpenClaim.pre_eq_preRow]; exact lifted os started H enc F)

theorem plain (f : FuncId) (fn : Func) (hf : Tryd.pinned.checked.prog.funcNamed "flume/flumelaw2.CrcNear" = some f) (hfn : Tryd.pinned.checked.prog.funcs[f]? = some fn) :
    false = Tryd.pinned.checked.prog.looks [] ∧ ∀ (j : Nat) t, fn.params[j]? = some t → Tryd.pinned.checked.prog.wantsStandIn t = false := by
  obtain rfl : f = 4 := Option.some.inj ((show Tryd.prog.funcNamed "flume/flumelaw2.CrcNear" = some 4 by kernel_rfl).symm.trans hf) |>.symm
  obtain rfl : fn = Tryd.f4 := (Option.some.inj (Tryd.func4.symm.trans hfn)).symm
  refine ⟨by kernel_rfl, fun j t ht => ?_⟩
  rw [Tryd.params4] at ht
  have hm := Array.mem_of_getElem? ht
  simp only [List.mem_toArray, List.mem_cons, List.not_mem_nil, or_false] at hm
  (repeat' (rcases hm with rfl | hm)) <;> (first | (subst hm) | skip) <;> (show Tryd.prog.wantsStandIn _ = false; kernel_rfl)

/-- The statement. -/
theorem card : Rows.CrcNearCardSaid :=
  Claim7.holds_tied_plain_at .later [] _ _ _ _ said (fun _ h => by cases h) (by kernel_rfl) (fun _ h => by cases h) crcNear_row_tie rfl ⟨rfl, rfl⟩ (by kernel_rfl) rfl plain (by kernel_rfl)
#print axioms card
end Go.Proofs.YtddepgacfeppfaaDoor.crcNear

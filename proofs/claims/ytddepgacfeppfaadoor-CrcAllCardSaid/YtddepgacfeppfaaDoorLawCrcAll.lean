/- CrcAll: for every input the law returns true, and each argument reads behind the call as it read before. Conditions: those of its row alone. -/
import Derived.Test.YtddepgacfeppfaaDoorCrcAll
import Derived.Test.YtddepgacfeppfaaDoorCrcLaid
namespace Go.Proofs.YtddepgacfeppfaaDoor.crcAll
open Go.ChangeShapes Go.WideShapes Go.ChangeAt Go.RowKit

set_option maxRecDepth 100000 in
theorem contract (H : Type) (enc : TypeId × Value → H) (W : World) (base : Nat) (args : Array Value) (ds gs : List (DataW H)) (before : List MemPlace)
    (hval : ∀ (j : Nat) t v, Tryd.f6.params[j]? = some t → args[j]? = some v → Value.okWide Tryd.prog W .any base t v)
    (hW : DataW.Whole enc Tryd.prog Tryd.f6.params.toList Rows.crcAllSpec.vars false W args.toList ds gs before)
    (hsz : (DataW.weightsEach Tryd.prog (Tryd.f6.params.toList ++ Rows.crcAllSpec.plain.varTypes Tryd.prog) (ds ++ gs)).all (· ≤ reachBytes) = true) (hL : laidMetH Tryd.prog Rows.crcAllRow.laid W) :
    Calls Tryd.prog 6 args W fun e W' => ∃ v, e = .returned v ∧ Rows.crcAllSpec.post enc Tryd.prog Tryd.f6 false true false false W args v W' := by
  have hW' := hW
  obtain ⟨p, q, hA0, hV, rfl, hfz, hnd⟩ := hW
  have hA : DataW.TrodAll enc Tryd.prog W 0 (fun _ => true) true Tryd.f6.params.toList args.toList ds p := hA0
  rw [Tryd.params6] at hA hval hsz
  obtain ⟨v0, vs0, d0, ds0, p0, q0, hargs, rfl, rfl, h0, r0⟩ := trodAll_cons hA
  obtain ⟨v1, vs1, d1, ds1, p1, q1, rfl, rfl, rfl, h1, r1⟩ := trodAll_cons r0
  obtain ⟨v2, vs2, d2, ds2, p2, q2, rfl, rfl, rfl, h2, r2⟩ := trodAll_cons r1
  obtain ⟨rfl, rfl, rfl⟩ := trodAll_nil r2
  obtain rfl : args = #[v0, v1, v2] := by cases args; simp_all
  obtain ⟨rfl, rfl⟩ := trodVars_none hV
  clear hA0
  obtain ⟨a0, len0, c0, rfl⟩ := okWide_slice Tryd.underlying32 (hval 0 32 v0 rfl rfl)
  obtain ⟨fu0, hf0⟩ := h0
  obtain ⟨ao0, L0, cap0, hv0, hL0, n0, l0, z0⟩ := read_lists (v := .slice a0 len0 c0) hf0 (reach_of hsz (j := 0) rfl rfl)
  injection hv0 with e1 e2 e3
  subst e1 e2 e3
  obtain ⟨a1, len1, c1, rfl⟩ := okWide_slice Tryd.underlying33 (hval 1 33 v1 rfl rfl)
  obtain ⟨fu1, hf1⟩ := h1
  obtain ⟨ao1, L1, cap1, hv1, hL1, n1, l1, z1⟩ := read_u32s (v := .slice a1 len1 c1) hf1 (reach_of hsz (j := 1) rfl rfl)
  injection hv1 with e1 e2 e3
  subst e1 e2 e3
  obtain ⟨a2, len2, c2, rfl⟩ := okWide_slice Tryd.underlying34 (hval 2 34 v2 rfl rfl)
  obtain ⟨fu2, hf2⟩ := h2
  obtain ⟨ao2, L2, cap2, hv2, hL2, n2, l2, z2⟩ := read_ints64 (v := .slice a2 len2 c2) hf2 (reach_of hsz (j := 2) rfl rfl)
  injection hv2 with e1 e2 e3
  subst e1 e2 e3
  have hD : DeB W := deB_of_laid hL
  have walk : Calls Tryd.prog 6 #[Value.slice a0 L0.length c0, Value.slice a1 L1.length c1, Value.slice a2 L2.length c2] W (TrueBelow W) := by
    exact crc_all _ L0 _ _ L1 _ _ L2 _ W hD hL0 hL1 hL2 (by omega) (by omega) (by omega)
  refine walk.mono fun e W' ⟨he, hb⟩ => ⟨_, he, ?_⟩
  exact law_post Tryd.f6 Rows.crcAllSpec rfl rfl (by rw [Tryd.params6]; intro t ht; simp only [List.mem_cons, List.not_mem_nil, or_false] at ht; (repeat' (rcases ht with rfl | ht)) <;> (first | (subst ht) | skip) <;> exact ⟨by kernel_rfl, of_decide_eq_true (by kernel_rfl)⟩) hW' rfl rfl rfl hb

def input : Array Value := #[.slice none 0 0, .slice none 0 0, .slice none 0 0]
theorem laid_met (os : Os) : laidMet Tryd.prog Rows.crcAllRow.laid ((laidWorld os).forCall (fun _ _ => 0) ⟨#[], input, []⟩).memory :=
  laidMet_of_run' 8 (by kernel_rfl) (by kernel_rfl)
theorem reads (os : Os) {H : Type} (enc : TypeId × Value → H) : ∃ ds places, DataW.whole enc Tryd.prog ((laidWorld os).forCall (fun _ _ => 0) ⟨#[], input, []⟩).memory Tryd.f6.params.toList Rows.crcAllSpec.vars false input.toList 8 = some (ds, [], places) :=
  ⟨[.nil, .nil, .nil], [], by kernel_rfl⟩

set_option maxRecDepth 100000 in
theorem lifted (os : Os) (started : os.Started) (H : Type) (enc : TypeId × Value → H) (F : Stop.Interp) :
    ReturnsInHanded {} Tryd.checked os 6 .any ((OpenSpec.ofChange Rows.crcAllSpec).preRow enc Tryd.prog Tryd.f6 Rows.crcAllRow.domain false Rows.crcAllRow.laid) (((OpenSpec.ofChange Rows.crcAllSpec).at F).post enc Tryd.prog Tryd.f6 false true false false) := by
  obtain ⟨dd, places, hx⟩ := reads os enc
  refine returnsInHanded_of_row (C := Tryd.checked) (s := OpenSpec.ofChange Rows.crcAllSpec) frame_own started (by kernel_rfl) Tryd.func6
    (witness_row_at (enc := enc) (C := Tryd.checked) false (laidWorld os) input rfl (by kernel_rfl) (by kernel_rfl) (by kernel_rfl)
      (OpenSpec.preRow_of_cond 8 hx (by kernel_rfl) (fun k hk => by cases hk) (by kernel_rfl) (laid_met os))) ?_
  intro W base args ds gs before hval hW _ _ hsz hL _ _
  exact contract H enc W base args ds gs before hval hW hsz hL

theorem said : Rows.CrcAllSaid :=
  OpenClaim.holds_of_cond 6 Tryd.f6 rfl rfl rfl rfl rfl rfl rfl ⟨rfl, rfl, rfl, rfl, rfl⟩ rfl rfl rfl rfl rfl (by kernel_rfl) Tryd.func6 (by kernel_rfl)
    (of_decide_eq_true (by kernel_rfl)) (by unfold Func.isWrapper; first | (rw [if_pos (by decide +kernel)]; kernel_rfl) | (rw [if_neg (by decide +kernel)]; exact ⟨rfl, rfl⟩))
    (fun os started H enc _ F => by rw [OpenClaim.pre_eq_preRow]; exact lifted os started H enc F)

theorem plain (f : FuncId) (fn : Func) (hf : Tryd.pinned.checked.prog.funcNamed "flume/flumelaw2.CrcAll" = some f) (hfn : Tryd.pinned.checked.prog.funcs[f]? = some fn) :
    false = Tryd.pinned.checked.prog.looks [] ∧ ∀ (j : Nat) t, fn.params[j]? = some t → Tryd.pinned.checked.prog.wantsStandIn t = false := by
  obtain rfl : f = 6 := Option.some.inj ((show Tryd.prog.funcNamed "flume/flumelaw2.CrcAll" = some 6 by kernel_rfl).symm.trans hf) |>.symm
  obtain rfl : fn = Tryd.f6 := (Option.some.inj (Tryd.func6.symm.trans hfn)).symm
  refine ⟨by kernel_rfl, fun j t ht => ?_⟩
  rw [Tryd.params6] at ht
  have hm := Array.mem_of_getElem? ht
  simp only [List.mem_toArray, List.mem_cons, List.not_mem_nil, or_false] at hm
  (repeat' (rcases hm with rfl | hm)) <;> (first | (subst hm) | skip) <;> (show Tryd.prog.wantsStandIn _ = false; kernel_rfl)

/-- The statement. -/
theorem card : Rows.CrcAllCardSaid :=
  Claim7.holds_tied_plain_at .later [] _ _ _ _ said (fun _ h => by cases h) (by kernel_rfl) (fun _ h => by cases h) crcAll_row_tie rfl ⟨rfl, rfl⟩ (by kernel_rfl) rfl plain (by kernel_rfl)
#print axioms card
end Go.Proofs.YtddepgacfeppfaaDoor.crcAll

/- IndexCuts: for every input the law returns true, and each argument reads behind the call as it read before. Conditions: those of its row alone. -/
import Derived.Test.YtmkljmljbbijeaaIdxCuts
namespace Go.Proofs.Ytmkljmljbbijeaa.indexCuts
open Go.ChangeShapes Go.WideShapes Go.ChangeAt Go.RowKit

set_option maxRecDepth 100000 in
theorem contract (H : Type) (enc : TypeId × Value → H) (W : World) (base : Nat) (args : Array Value) (ds gs : List (DataW H)) (before : List MemPlace)
    (hval : ∀ (j : Nat) t v, Try.f11.params[j]? = some t → args[j]? = some v → Value.okWide Try.prog W .any base t v)
    (hW : DataW.Whole enc Try.prog Try.f11.params.toList Rows.indexCutsSpec.vars false W args.toList ds gs before)
    (hsz : (DataW.weightsEach Try.prog (Try.f11.params.toList ++ Rows.indexCutsSpec.plain.varTypes Try.prog) (ds ++ gs)).all (· ≤ reachBytes) = true) :
    Calls Try.prog 11 args W fun e W' => ∃ v, e = .returned v ∧ Rows.indexCutsSpec.post enc Try.prog Try.f11 false true false false W args v W' := by
  have hW' := hW
  obtain ⟨p, q, hA0, hV, rfl, hfz, hnd⟩ := hW
  have hA : DataW.TrodAll enc Try.prog W 0 (fun _ => true) true Try.f11.params.toList args.toList ds p := hA0
  rw [Try.params11] at hA hval hsz
  obtain ⟨v0, vs0, d0, ds0, p0, q0, hargs, rfl, rfl, h0, r0⟩ := trodAll_cons hA
  obtain ⟨v1, vs1, d1, ds1, p1, q1, rfl, rfl, rfl, h1, r1⟩ := trodAll_cons r0
  obtain ⟨v2, vs2, d2, ds2, p2, q2, rfl, rfl, rfl, h2, r2⟩ := trodAll_cons r1
  obtain ⟨v3, vs3, d3, ds3, p3, q3, rfl, rfl, rfl, h3, r3⟩ := trodAll_cons r2
  obtain ⟨rfl, rfl, rfl⟩ := trodAll_nil r3
  obtain rfl : args = #[v0, v1, v2, v3] := by cases args; simp_all
  obtain ⟨rfl, rfl⟩ := trodVars_none hV
  clear hA0
  obtain ⟨x0, rfl, rfl, rfl, w0⟩ := open_int Try.underlying3 (hval 0 3 v0 rfl rfl) h0
  obtain ⟨x2, rfl, rfl, rfl, w2⟩ := open_int Try.underlying3 (hval 2 3 v2 rfl rfl) h2
  obtain ⟨a1, len1, c1, rfl⟩ := okWide_slice Try.underlying56 (hval 1 56 v1 rfl rfl)
  obtain ⟨fu1, hf1⟩ := h1
  obtain ⟨ao1, L1, cap1, hv1, hL1, n1, l1, z1⟩ := read_u16s (v := .slice a1 len1 c1) hf1 (reach_of hsz (j := 1) rfl rfl)
  injection hv1 with e1 e2 e3
  subst e1 e2 e3
  obtain ⟨a3, len3, c3, rfl⟩ := okWide_slice Try.underlying56 (hval 3 56 v3 rfl rfl)
  obtain ⟨fu3, hf3⟩ := h3
  obtain ⟨ao3, L3, cap3, hv3, hL3, n3, l3, z3⟩ := read_u16s (v := .slice a3 len3 c3) hf3 (reach_of hsz (j := 3) rfl rfl)
  injection hv3 with e1 e2 e3
  subst e1 e2 e3
  have walk : Calls Try.prog 11 #[Value.int .i64 x0, Value.slice a1 L1.length c1, Value.int .i64 x2, Value.slice a3 L3.length c3] W (TrueBelow W) := by
    exact idx_cuts x0 x2 _ _ L1 L3 _ _ W hL1 hL3
  refine walk.mono fun e W' ⟨he, hb⟩ => ⟨_, he, ?_⟩
  exact law_post Try.f11 Rows.indexCutsSpec rfl rfl (by rw [Try.params11]; intro t ht; simp only [List.mem_cons, List.not_mem_nil, or_false] at ht; (repeat' (rcases ht with rfl | ht)) <;> (first | (subst ht) | skip) <;> exact ⟨by kernel_rfl, of_decide_eq_true (by kernel_rfl)⟩) hW' rfl rfl rfl hb

set_option maxRecDepth 100000 in
theorem lifted (os : Os) (started : os.Started) (H : Type) (enc : TypeId × Value → H) :
    ReturnsInHanded {} Try.checked os 11 .any (Rows.indexCutsSpec.pre6 enc Try.prog Try.f11 Rows.indexCutsRow.domain false) (Rows.indexCutsSpec.post enc Try.prog Try.f11 false true false false) := by
  refine returnsInHanded_of_change_sized (C := Try.checked) frame_own started (by kernel_rfl) Try.func11
    (ChangeSpec.witness6 (enc := enc) (C := Try.checked) false ⟨#[], #[.int .i64 0, .slice none 0 0, .int .i64 0, .slice none 0 0], []⟩ 8 (by kernel_rfl) (by kernel_rfl) (by kernel_rfl) (by kernel_rfl)) ?_
  intro W base args ds gs before hval hW _ hsz _
  exact contract H enc W base args ds gs before hval hW hsz

/-- The statement. -/
theorem proved : Rows.IndexCutsSaid :=
  OpenClaim.holds_of_wide 11 Try.f11 rfl rfl rfl rfl rfl rfl rfl ⟨rfl, rfl, rfl, rfl, rfl⟩ rfl rfl rfl rfl rfl (by kernel_rfl) Try.func11 (by kernel_rfl)
    (of_decide_eq_true (by kernel_rfl)) (by unfold Func.isWrapper; first | (rw [if_pos (by decide +kernel)]; kernel_rfl) | (rw [if_neg (by decide +kernel)]; exact ⟨rfl, rfl⟩))
    (fun os started H enc _ => lifted os started H enc)
#print axioms proved
end Go.Proofs.Ytmkljmljbbijeaa.indexCuts

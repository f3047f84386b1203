/- FrameBack: for every input the law returns true, and each argument reads behind the call as it read before. Conditions: those of its row alone. -/
import Derived.Test.YtfadpjljokpenaaFrameBack
import Derived.Test.YtfadpjljokpenaaOpenRecs
namespace Go.Proofs.Ytfadpjljokpenaa.frameBack
open Go.ChangeShapes Go.WideShapes Go.ChangeAt Go.RowKit

set_option maxRecDepth 100000 in
theorem contract (H : Type) (enc : TypeId × Value → H) (W : World) (base : Nat) (args : Array Value) (ds gs : List (DataW H)) (before : List MemPlace)
    (hval : ∀ (j : Nat) t v, Try.f5.params[j]? = some t → args[j]? = some v → Value.okWide Try.prog W .any base t v)
    (hW : DataW.Whole enc Try.prog Try.f5.params.toList Rows.frameBackSpec.vars false W args.toList ds gs before)
    (hsz : (DataW.weightsEach Try.prog (Try.f5.params.toList ++ Rows.frameBackSpec.plain.varTypes Try.prog) (ds ++ gs)).all (· ≤ reachBytes) = true) :
    Calls Try.prog 5 args W fun e W' => ∃ v, e = .returned v ∧ Rows.frameBackSpec.post enc Try.prog Try.f5 false true false false W args v W' := by
  have hW' := hW
  obtain ⟨p, q, hA0, hV, rfl, hfz, hnd⟩ := hW
  have hA : DataW.TrodAll enc Try.prog W 0 (fun _ => true) true Try.f5.params.toList args.toList ds p := hA0
  rw [Try.params5] at hA hval hsz
  obtain ⟨v0, vs0, d0, ds0, p0, q0, hargs, rfl, rfl, h0, r0⟩ := trodAll_cons hA
  obtain ⟨v1, vs1, d1, ds1, p1, q1, rfl, rfl, rfl, h1, r1⟩ := trodAll_cons r0
  obtain ⟨v2, vs2, d2, ds2, p2, q2, rfl, rfl, rfl, h2, r2⟩ := trodAll_cons r1
  obtain ⟨rfl, rfl, rfl⟩ := trodAll_nil r2
  obtain rfl : args = #[v0, v1, v2] := by cases args; simp_all
  obtain ⟨rfl, rfl⟩ := trodVars_none hV
  clear hA0
  obtain ⟨x1, rfl, rfl, rfl, w1⟩ := open_int Try.underlying35 (hval 1 35 v1 rfl rfl) h1
  obtain ⟨ao2, bs2, cap2, rfl, hb2, n2, l2, m2, e2⟩ := open_bytes (hval 2 31 v2 rfl rfl) h2
  have z2 : cap2 ≤ 140737488351232 := by
    rcases e2 with ⟨_, e⟩ | ⟨el, sp, rfl, e⟩
    · omega
    · have := sized_slice (j := 2) hsz rfl rfl Try.underlying31
      rw [bytesByte, Nat.mul_one, e] at this; exact this
  obtain ⟨x0, ao0, cap0, rfl, w0, hb0, n0, l0, z0⟩ := read_rec (hval 0 34 v0 rfl rfl) h0 (reach_of hsz (j := 0) rfl rfl)
  have walk : Calls Try.prog 5 #[Value.agg #[.int .i64 x0.lsn, .slice ao0 x0.data.length cap0], Value.int .u32 x1, Value.slice ao2 bs2.length cap2] W (TrueBelow W) := by
    obtain ⟨s, rfl⟩ := u32_bv w1
    exact frame_back x0.lsn _ x0.data _ s _ bs2 _ W w0 hb0 n0 l0 z0 hb2 n2 l2 z2
  refine walk.mono fun e W' ⟨he, hb⟩ => ⟨_, he, ?_⟩
  exact law_post Try.f5 Rows.frameBackSpec rfl rfl (by rw [Try.params5]; intro t ht; simp only [List.mem_cons, List.not_mem_nil, or_false] at ht; (repeat' (rcases ht with rfl | ht)) <;> (first | (subst ht) | skip) <;> exact ⟨by kernel_rfl, of_decide_eq_true (by kernel_rfl)⟩) hW' rfl rfl rfl hb

set_option maxRecDepth 100000 in
theorem lifted (os : Os) (started : os.Started) (H : Type) (enc : TypeId × Value → H) :
    ReturnsInHanded {} Try.checked os 5 .any (Rows.frameBackSpec.pre6 enc Try.prog Try.f5 Rows.frameBackRow.domain false) (Rows.frameBackSpec.post enc Try.prog Try.f5 false true false false) := by
  refine returnsInHanded_of_change_sized (C := Try.checked) frame_own started (by kernel_rfl) Try.func5
    (ChangeSpec.witness6 (enc := enc) (C := Try.checked) false ⟨#[], #[.agg #[.int .i64 0, .slice none 0 0], .int .u32 0, .slice none 0 0], []⟩ 8 (by kernel_rfl) (by kernel_rfl) (by kernel_rfl) (by kernel_rfl)) ?_
  intro W base args ds gs before hval hW _ hsz _
  exact contract H enc W base args ds gs before hval hW hsz

/-- The statement. -/
theorem proved : Rows.FrameBackSaid :=
  OpenClaim.holds_of_wide 5 Try.f5 rfl rfl rfl rfl rfl rfl rfl ⟨rfl, rfl, rfl, rfl, rfl⟩ rfl rfl rfl rfl rfl (by kernel_rfl) Try.func5 (by kernel_rfl)
    (of_decide_eq_true (by kernel_rfl)) (by unfold Func.isWrapper; first | (rw [if_pos (by decide +kernel)]; kernel_rfl) | (rw [if_neg (by decide +kernel)]; exact ⟨rfl, rfl⟩))
    (fun os started H enc _ => lifted os started H enc)
#print axioms proved
end Go.Proofs.Ytfadpjljokpenaa.frameBack

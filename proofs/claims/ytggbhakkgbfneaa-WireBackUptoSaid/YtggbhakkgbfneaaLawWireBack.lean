/- WireBack: for every input the law returns true, and each argument reads behind the call as it read before. Conditions: those of its row alone. -/
import Derived.Test.YtggbhakkgbfneaaWireBack
import Derived.Test.YtggbhakkgbfneaaBulk
import Derived.Test.YtggbhakkgbfneaaCond
namespace Go.Proofs.Ytggbhakkgbfneaa.wireBack
open Go.ChangeShapes Go.WideShapes Go.ChangeAt Go.RowKit

set_option maxRecDepth 100000 in
theorem contract (H : Type) (enc : TypeId × Value → H) (W : World) (base : Nat) (args : Array Value) (ds gs : List (DataW H)) (before : List MemPlace)
    (hval : ∀ (j : Nat) t v, Try.f4.params[j]? = some t → args[j]? = some v → Value.okWide Try.prog W .any base t v)
    (hW : DataW.Whole enc Try.prog Try.f4.params.toList Rows.wireBackSpec.vars false W args.toList ds gs before)
    (hsz : (DataW.weightsEach Try.prog (Try.f4.params.toList ++ Rows.wireBackSpec.plain.varTypes Try.prog) (ds ++ gs)).all (· ≤ reachBytes) = true) (hk : Rows.uptoSmall H (ds ++ gs) = true) :
    Calls Try.prog 4 args W fun e W' => ∃ v, e = .returned v ∧ Rows.wireBackSpec.post enc Try.prog Try.f4 false true false false W args v W' := by
  have hW' := hW
  obtain ⟨p, q, hA0, hV, rfl, hfz, hnd⟩ := hW
  have hA : DataW.TrodAll enc Try.prog W 0 (fun _ => true) true Try.f4.params.toList args.toList ds p := hA0
  rw [Try.params4] at hA hval hsz
  obtain ⟨v0, vs0, d0, ds0, p0, q0, hargs, rfl, rfl, h0, r0⟩ := trodAll_cons hA
  obtain ⟨v1, vs1, d1, ds1, p1, q1, rfl, rfl, rfl, h1, r1⟩ := trodAll_cons r0
  obtain ⟨v2, vs2, d2, ds2, p2, q2, rfl, rfl, rfl, h2, r2⟩ := trodAll_cons r1
  obtain ⟨rfl, rfl, rfl⟩ := trodAll_nil r2
  obtain rfl : args = #[v0, v1, v2] := by cases args; simp_all
  obtain ⟨rfl, rfl⟩ := trodVars_none hV
  clear hA0
  obtain ⟨x0, rfl, rfl, rfl, w0⟩ := open_int Try.underlying27 (hval 0 27 v0 rfl rfl) h0
  obtain ⟨ao1, bs1, cap1, rfl, hb1, n1, l1, m1, e1⟩ := open_bytes (hval 1 25 v1 rfl rfl) h1
  have z1 : cap1 ≤ 140737488351232 := by
    rcases e1 with ⟨_, e⟩ | ⟨el, sp, rfl, e⟩
    · omega
    · have := sized_slice (j := 1) hsz rfl rfl Try.underlying25
      rw [bytesByte, Nat.mul_one, e] at this; exact this
  have u1 : cap1 ≤ 1048576 := by
    rcases e1 with ⟨_, e⟩ | ⟨el, sp, rfl, e⟩
    · omega
    · have h1 := bulks.part_of hk (d := .slice el sp) (by simp)
      have h2 := bulks.slice_le el sp
      omega
  obtain ⟨ao2, bs2, cap2, rfl, hb2, n2, l2, m2, e2⟩ := open_bytes (hval 2 25 v2 rfl rfl) h2
  have z2 : cap2 ≤ 140737488351232 := by
    rcases e2 with ⟨_, e⟩ | ⟨el, sp, rfl, e⟩
    · omega
    · have := sized_slice (j := 2) hsz rfl rfl Try.underlying25
      rw [bytesByte, Nat.mul_one, e] at this; exact this
  have u2 : cap2 ≤ 1048576 := by
    rcases e2 with ⟨_, e⟩ | ⟨el, sp, rfl, e⟩
    · omega
    · have h1 := bulks.part_of hk (d := .slice el sp) (by simp)
      have h2 := bulks.slice_le el sp
      omega
  have walk : Calls Try.prog 4 #[Value.int .u64 x0, Value.slice ao1 bs1.length cap1, Value.slice ao2 bs2.length cap2] W (TrueBelow W) := by
    obtain ⟨a, rfl⟩ := u64_bv w0
    exact wire_back a _ _ bs1 bs2 _ _ W hb1 hb2 n1 n2 (by omega) (by omega) (by omega)
  refine walk.mono fun e W' ⟨he, hb⟩ => ⟨_, he, ?_⟩
  exact law_post Try.f4 Rows.wireBackSpec rfl rfl (by rw [Try.params4]; intro t ht; simp only [List.mem_cons, List.not_mem_nil, or_false] at ht; (repeat' (rcases ht with rfl | ht)) <;> (first | (subst ht) | skip) <;> exact ⟨by kernel_rfl, of_decide_eq_true (by kernel_rfl)⟩) hW' rfl rfl rfl hb

set_option maxRecDepth 100000 in
theorem lifted (os : Os) (started : os.Started) (H : Type) (enc : TypeId × Value → H) (F : Stop.Interp) :
    ReturnsInHanded {} Try.checked os 4 .any ((Rows.OpenSpec.upto Rows.wireBackSpec).pre6 enc Try.prog Try.f4 Rows.wireBackUptoRow.domain false) (((Rows.OpenSpec.upto Rows.wireBackSpec).at F).post enc Try.prog Try.f4 false true false false) := by
  refine returnsInHanded_of_cond_sized (C := Try.checked) (s := Rows.OpenSpec.upto Rows.wireBackSpec) (k := Rows.uptoSmall) rfl frame_own started (by kernel_rfl) Try.func4
    (OpenSpec.witness (enc := enc) (C := Try.checked) (s := Rows.OpenSpec.upto Rows.wireBackSpec) (k := Rows.uptoSmall) rfl false ⟨#[], #[.int .u64 0, .slice none 0 0, .slice none 0 0], []⟩ 8 (by kernel_rfl) (by kernel_rfl) (by kernel_rfl)
      (x := ([.lit (.int .u64 0), .nil, .nil], [], [])) (by kernel_rfl) rfl (by kernel_rfl)) ?_
  intro W base args ds gs before hval hW _ hk hsz _
  exact contract H enc W base args ds gs before hval hW hsz hk

/-- The statement. -/
theorem proved : Rows.WireBackUptoSaid :=
  OpenClaim.holds_of_cond 4 Try.f4 rfl rfl rfl rfl rfl rfl rfl ⟨rfl, rfl, rfl, rfl, rfl⟩ rfl rfl rfl rfl rfl (by kernel_rfl) Try.func4 (by kernel_rfl)
    (of_decide_eq_true (by kernel_rfl)) (by unfold Func.isWrapper; first | (rw [if_pos (by decide +kernel)]; kernel_rfl) | (rw [if_neg (by decide +kernel)]; exact ⟨rfl, rfl⟩))
    (fun os started H enc _ F => lifted os started H enc F)
#print axioms proved
end Go.Proofs.Ytggbhakkgbfneaa.wireBack

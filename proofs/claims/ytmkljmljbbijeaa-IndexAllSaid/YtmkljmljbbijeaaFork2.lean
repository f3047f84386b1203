/- XMixed's law where an allocation may come ahead of, between or behind two acting operations. -/
import Derived.Test.YtmkljmljbbijeaaMixed
namespace Go.Proofs.Ytmkljmljbbijeaa
open Go

section
variable {P : Program} {ops : Array Oper} {md : Region.Mode} {C : World → Prop}
theorem act_of_list {Q : Exit → Act → World → Prop} {N : Act → World → Prop} {w : World} {a : Act} {o : Oper} (h : wpList P ops (mixQ C Q N) [o] a w) (hskip : Region.wanted o (yielded ops a.tmps) = true) :
    o.wp P a w (fun a' w' => C w' ∧ N a' w') Q ∨ (o.asks P a w ∧ LetsOut Q) := by
  have hL : LetsOut (mixQ C Q N) → LetsOut Q := fun ⟨a, w, h⟩ => ⟨a, w, h⟩
  rw [wpList] at h
  simp only [hskip, if_true] at h ⊢
  rcases h with h | ⟨h1, h2⟩
  · refine .inl ?_
    unfold Oper.wp at *
    generalize (execOp a.eval o).run P w = r at *
    cases r with
    | ok n w' =>
      cases n <;> simp only [Oper.upon] at h ⊢
      case value u => exact h
      case skip => exact h
      case defer d => exact h
      case enter f args =>
        refine Calls.mono h fun e w'' he => ?_
        cases e with
        | returned u => exact he
        | panicked c => exact he
        | outgrown => exact hL he
      case row row args => exact h
    | halt x w' =>
      cases x <;> simp only [Oper.upon] at h ⊢
      case panic u => exact h
  · exact .inr ⟨h1, hL h2⟩
theorem wpOp_act {Q : Exit → Act → World → Prop} {i fuel : Nat} {o : Oper} {li : Array Bool} {a : Act} {w : World} (N : Act → World → Prop) (h0 : ops[i]? = some o) (hN : ∀ a w, C w → N a w → anyC P md ops C Q fuel li a w) (hw : Region.wanted o (yielded ops a.tmps) = true) (h : wpList P ops (mixQ C Q N) [o] a w) : wpOp P ops Q i (anyC P md ops C Q fuel li) a w := by
  unfold wpOp
  simp only [h0, hw, if_true]
  rcases act_of_list h hw with h | h
  · exact .inl (Oper.wp_mono (fun a' w' ⟨hc, hk⟩ => hN a' w' hc hk) h)
  · exact .inr h

def fork2B (md : Region.Mode) (l : List Oper) (π0 : List Nat) (i j i2 : Nat) (π1 π2 π3 : List Nat) : Bool :=
  Region.noSelect l.toArray && decide (π0.length + (π1.length + 2) = l.length) && decide (π1.length = π3.length) && decide (π1.length + 1 = π2.length) && (π0.all fun k => decide (k < l.length)) && ((i :: i2 :: π1).all fun k => decide (k < l.length)) && ((j :: π2).all fun k => decide (k < l.length)) && ((j :: π3).all fun k => decide (k < l.length)) &&
    !plainB (l.getD i2 ⟨none, .move (.tmp 0), 0, "", #[], none⟩).op && !plainB (l.getD j ⟨none, .move (.tmp 0), 0, "", #[], none⟩).op &&
    match readsTo md l.toArray π0 (Array.replicate l.length false) with
    | none => false
    | some li => Region.ready md l.toArray li == [i, j] && Region.ready md l.toArray (li.setIfInBounds i true) == [i2, j] && mixFrom md l.toArray π1 ((li.setIfInBounds i true).setIfInBounds i2 true) && mixFrom md l.toArray π3 ((li.setIfInBounds i true).setIfInBounds j true) && mixFrom md l.toArray π2 (li.setIfInBounds j true)

/-- The law. -/
theorem wp_region_fork2 {id : Nat} {Q : Exit → Act → World → Prop} {a : Act} {w : World} {l : List Oper} (π0 : List Nat) (i j i2 : Nat) (π1 π2 π3 : List Nat) (R : World → Prop) (hm : P.follows .mixedOrders = true) (hB : fork2B .any l π0 i j i2 π1 π2 π3 = true)
    (hQ : ∀ c a d v w, Q (.panic c) (a.put d v) w → Q (.panic c) a w) (hC : R w.drew)
    (h : Nonempty (In R) → wpQuiet P l.toArray (fun w' => ∃ p : In R, w' = p.w) (fun a' =>
      (Region.wanted (l.getD i ⟨none, .move (.tmp 0), 0, "", #[], none⟩) (yielded l.toArray a'.tmps) = true ∧
        wpList P l.toArray (mixQ (fun w' => ∃ p : In R, w' = p.w) Q (fun a' w' => wpMix P l.toArray (fun w' => ∃ p : In R, w' = p.w) Q (pick l (i2 :: π1)) a' w' ∧ wpMix P l.toArray (fun w' => ∃ p : In R, w' = p.w) Q (pick l (j :: π3)) a' w')) [l.getD i ⟨none, .move (.tmp 0), 0, "", #[], none⟩] a' w.drew) ∧
      wpMix P l.toArray (fun w' => ∃ p : In R, w' = p.w) Q (pick l (j :: π2)) a' w.drew) (pick l π0) a) : (Code.region id l.toArray true).wp P Q a w := by
  simp only [fork2B, Bool.and_eq_true, decide_eq_true_eq, Bool.not_eq_true'] at hB
  obtain ⟨⟨⟨⟨⟨⟨⟨⟨⟨⟨hsel, hlen⟩, h13⟩, h12⟩, hall0⟩, hall1⟩, hall2⟩, hall3⟩, hpi⟩, hpj⟩, hrest⟩ := hB
  have hk : (∃ p : In R, w.drew = p.w) := ⟨⟨_, hC⟩, rfl⟩
  refine wp_region_any hm ?_
  split at hrest
  case h_1 => cases hrest
  case h_2 li hli =>
    simp only [Bool.and_eq_true, beq_iff_eq] at hrest
    obtain ⟨⟨⟨⟨hready, hready2⟩, hb1⟩, hb3⟩, hb2⟩ := hrest
    have hp1 := pick_spec hall1
    have hp2 := pick_spec hall2
    have hp3 := pick_spec hall3
    simp only [List.map_cons, pick, List.cons.injEq] at hp1 hp2 hp3
    have sz : l.toArray.size = l.length := by simp
    have inner : ∀ (a' : Act) (w' : World), (∃ p : In R, w' = p.w) → (wpMix P l.toArray (fun w' => ∃ p : In R, w' = p.w) Q (pick l (i2 :: π1)) a' w' ∧ wpMix P l.toArray (fun w' => ∃ p : In R, w' = p.w) Q (pick l (j :: π3)) a' w') →
        anyC P .any l.toArray (fun w' => ∃ p : In R, w' = p.w) Q (π1.length + 1) (li.setIfInBounds i true) a' w' := by
      intro a' w' hk' ⟨hA, hBr⟩
      refine ⟨hk', fun h' => (by rw [hready2] at h'; cases h'), fun k hkk => ?_⟩
      rw [hready2] at hkk
      rcases List.mem_cons.1 hkk with rfl | hkk
      · exact wpOp_of_mix hsel hQ hp1.2.1 hpi hp1.2.2 hb1 hk' hA
      · obtain rfl := List.mem_singleton.1 hkk
        rw [h13]
        exact wpOp_of_mix hsel hQ hp3.1 hpj hp3.2 hb3 hk' hBr
    have step : wpQuiet P l.toArray (fun w' => ∃ p : In R, w' = p.w) (fun a' => anyC P .any l.toArray (fun w' => ∃ p : In R, w' = p.w) Q (π1.length + 2) li a' w.drew) (pick l π0) a := by
      refine wpQuiet_imp ?_ _ _ (h ⟨⟨_, hC⟩⟩)
      intro a' ⟨⟨hw, hA⟩, hBr⟩
      refine ⟨hk, fun h' => (by rw [hready] at h'; cases h'), fun k hk' => ?_⟩
      rw [hready] at hk'
      rcases List.mem_cons.1 hk' with rfl | hk'
      · exact wpOp_act _ hp1.1 inner hw hA
      · obtain rfl := List.mem_singleton.1 hk'
        rw [h12]
        exact wpOp_of_mix hsel hQ hp2.1 hpj hp2.2 hb2 hk hBr
    have := any_of_anyC _ _ _ _ (anyC_of_reads hsel hQ π0 (pick l π0) _ a (pick_spec hall0) hli hk step)
    rw [hlen] at this
    rw [sz]
    exact this
end
end Go.Proofs.Ytmkljmljbbijeaa

/- XMixed's law where, behind some reads, either of two acting operations may come up first: each order is walked. -/
import Derived.Test.YtfadpjljokpenaaMixed
namespace Go.Proofs.Ytfadpjljokpenaa
open Go

section
variable {P : Program} {ops : Array Oper} {md : Region.Mode} {C : World → Prop}

theorem wpQuiet_imp {Q Q' : Act → Prop} (hq : ∀ a, Q a → Q' a) : ∀ (l : List Oper) (a : Act), wpQuiet P ops C Q l a → wpQuiet P ops C Q' l a
  | [], a, h => hq a h
  | o :: l, a, h => by
    rw [wpQuiet] at h ⊢
    by_cases hw : Region.wanted o (yielded ops a.tmps) = true
    · rw [if_pos hw] at h ⊢
      obtain ⟨v, hv, hK⟩ := h
      exact ⟨v, hv, wpQuiet_imp hq l _ hK⟩
    · rw [if_neg hw] at h ⊢
      exact wpQuiet_imp hq l _ h
/-- What is listed behind some reads, each as soon as it may come up. -/
def readsTo (md : Region.Mode) (ops : Array Oper) : List Nat → Array Bool → Option (Array Bool)
  | [], listed => some listed
  | i :: l, listed => match ops[i]? with
    | none => none
    | some o => if plainB o.op && (Region.ready md ops listed).contains i && Region.free md ops listed i then readsTo md ops l (listed.setIfInBounds i true) else none

theorem anyC_of_reads {Q : Exit → Act → World → Prop} {fuel : Nat} {listed' : Array Bool} {w : World} (hs : Region.noSelect ops = true) (hQ : ∀ c a d v w, Q (.panic c) (a.put d v) w → Q (.panic c) a w) :
    ∀ (π : List Nat) (l : List Oper) (listed : Array Bool) (a : Act), π.map (ops[·]?) = l.map some → readsTo md ops π listed = some listed' → C w →
      wpQuiet P ops C (fun a' => anyC P md ops C Q fuel listed' a' w) l a → anyC P md ops C Q (π.length + fuel) listed a w
  | [], [], listed, a, _, hB, _, h => by
    simp only [readsTo, Option.some.injEq] at hB
    subst hB
    rw [List.length_nil, Nat.zero_add]
    exact h
  | [], _ :: _, _, _, hl, _, _, _ => by simp at hl
  | _ :: _, [], _, _, hl, _, _, _ => by simp at hl
  | i :: π, o :: l, listed, a, hl, hB, hC, h => by
    simp only [List.map_cons, List.cons.injEq] at hl
    obtain ⟨h0, hl⟩ := hl
    simp only [readsTo, h0] at hB
    split at hB
    case isFalse => cases hB
    case isTrue hc =>
      simp only [Bool.and_eq_true] at hc
      obtain ⟨⟨hp, hr⟩, hf⟩ := hc
      rw [show (i :: π).length + fuel = (π.length + fuel) + 1 by rw [List.length_cons]; omega]
      have key : ∃ v, Stays P ops C o v a ∧ wpQuiet P ops C (fun a' => anyC P md ops C Q fuel listed' a' w) l (a.put o.dst v) := by
        rw [wpQuiet] at h
        by_cases hw : Region.wanted o (yielded ops a.tmps) = true
        · simp only [hw, if_true] at h
          obtain ⟨v, hv, hK⟩ := h
          exact ⟨v, .inl ⟨hw, fun w' hw' => plain_stays hp (hv w' hw')⟩, hK⟩
        · simp only [hw] at h
          exact ⟨undef, .inr ⟨by simpa using hw, rfl⟩, h⟩
      obtain ⟨v, hy, hK⟩ := key
      exact anyC_first h0 (Region.noSelect_spec hs) hQ _ listed a w (Region.free_spec h0 hf) (by simpa using hr) hy
        (anyC_of_reads hs hQ π l _ _ hl hB hC hK)

/-- The next operation acts: the walk in an order gives the step. -/
theorem wpOp_of_mix {Q : Exit → Act → World → Prop} (hs : Region.noSelect ops = true) (hQ : ∀ c a d v w, Q (.panic c) (a.put d v) w → Q (.panic c) a w) {i : Nat} {π : List Nat} {o : Oper} {l : List Oper} {listed : Array Bool} {a : Act} {w : World} (h0 : ops[i]? = some o) (hp : plainB o.op = false) (hl : π.map (ops[·]?) = l.map some)
    (hB : mixFrom md ops π (listed.setIfInBounds i true) = true) (hC : C w) (h : wpMix P ops C Q (o :: l) a w) : wpOp P ops Q i (anyC P md ops C Q π.length (listed.setIfInBounds i true)) a w := by
  rw [wpMix] at h
  unfold wpOp
  simp only [h0]
  by_cases hw : Region.wanted o (yielded ops a.tmps) = true
  · simp only [hw, hp, if_true] at h ⊢
    rcases h with h | h
    · exact .inl (Oper.wp_mono (fun a' w' ⟨hc, hk⟩ => anyC_of_mix hs hQ π l _ _ _ hl hB hc hk) h)
    · exact .inr h
  · simp only [hw] at h ⊢
    exact anyC_of_mix hs hQ π l _ _ _ hl hB hC h

def forkB (md : Region.Mode) (l : List Oper) (π0 : List Nat) (i j : Nat) (π1 π2 : List Nat) : Bool :=
  Region.noSelect l.toArray && decide (π0.length + (π1.length + 1) = l.length) && decide (π1.length = π2.length) && (π0.all fun k => decide (k < l.length)) && ((i :: π1).all fun k => decide (k < l.length)) && ((j :: π2).all fun k => decide (k < l.length)) &&
    !plainB (l.getD i ⟨none, .move (.tmp 0), 0, "", #[], none⟩).op && !plainB (l.getD j ⟨none, .move (.tmp 0), 0, "", #[], none⟩).op &&
    match readsTo md l.toArray π0 (Array.replicate l.length false) with
    | none => false
    | some li => Region.ready md l.toArray li == [i, j] && mixFrom md l.toArray π1 (li.setIfInBounds i true) && mixFrom md l.toArray π2 (li.setIfInBounds j true)

/-- The law. -/
theorem wp_region_fork {id : Nat} {Q : Exit → Act → World → Prop} {a : Act} {w : World} {l : List Oper} (π0 : List Nat) (i j : Nat) (π1 π2 : List Nat) (R : World → Prop) (hm : P.follows .mixedOrders = true) (hB : forkB .any l π0 i j π1 π2 = true)
    (hQ : ∀ c a d v w, Q (.panic c) (a.put d v) w → Q (.panic c) a w) (hC : R w.drew)
    (h : Nonempty (In R) → wpQuiet P l.toArray (fun w' => ∃ p : In R, w' = p.w) (fun a' => wpMix P l.toArray (fun w' => ∃ p : In R, w' = p.w) Q (pick l (i :: π1)) a' w.drew ∧ wpMix P l.toArray (fun w' => ∃ p : In R, w' = p.w) Q (pick l (j :: π2)) a' w.drew) (pick l π0) a) : (Code.region id l.toArray true).wp P Q a w := by
  simp only [forkB, Bool.and_eq_true, decide_eq_true_eq, Bool.not_eq_true'] at hB
  obtain ⟨⟨⟨⟨⟨⟨⟨⟨hsel, hlen⟩, h12⟩, hall0⟩, hall1⟩, hall2⟩, hpi⟩, hpj⟩, hrest⟩ := hB
  have hk : (∃ p : In R, w.drew = p.w) := ⟨⟨_, hC⟩, rfl⟩
  refine wp_region_any hm ?_
  split at hrest
  case h_1 => cases hrest
  case h_2 li hli =>
    simp only [Bool.and_eq_true, beq_iff_eq] at hrest
    obtain ⟨⟨hready, hb1⟩, hb2⟩ := hrest
    have hp1 := pick_spec hall1
    have hp2 := pick_spec hall2
    simp only [List.map_cons, pick, List.cons.injEq] at hp1 hp2
    have sz : l.toArray.size = l.length := by simp
    have step : wpQuiet P l.toArray (fun w' => ∃ p : In R, w' = p.w) (fun a' => anyC P .any l.toArray (fun w' => ∃ p : In R, w' = p.w) Q (π1.length + 1) li a' w.drew) (pick l π0) a := by
      refine wpQuiet_imp ?_ _ _ (h ⟨⟨_, hC⟩⟩)
      intro a' ⟨hA, hBr⟩
      refine ⟨hk, fun h' => (by rw [hready] at h'; cases h'), fun k hk' => ?_⟩
      rw [hready] at hk'
      rcases List.mem_cons.1 hk' with rfl | hk'
      · exact wpOp_of_mix hsel hQ hp1.1 hpi hp1.2 hb1 hk hA
      · obtain rfl := List.mem_singleton.1 hk'
        rw [h12]
        exact wpOp_of_mix hsel hQ hp2.1 hpj hp2.2 hb2 hk hBr
    have := any_of_anyC _ _ _ _ (anyC_of_reads hsel hQ π0 (pick l π0) _ a (pick_spec hall0) hli hk step)
    rw [hlen] at this
    rw [sz]
    exact this
end
end Go.Proofs.Ytfadpjljokpenaa

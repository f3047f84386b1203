/- XMixed's law where the last operation waits for all others: behind it the class is not asked. -/
import Derived.Test.YtggbhakkgbfneaaMixed
namespace Go.Proofs.Ytggbhakkgbfneaa
open Go

section
variable {P : Program} {ops : Array Oper} {md : Region.Mode} {C : World → Prop}

/-- Whatever order is picked among the operations ahead of number n. -/
def anyT (P : Program) (md : Region.Mode) (ops : Array Oper) (C : World → Prop) (Q : Exit → Act → World → Prop) (n : Nat) (L : Array Bool → Act → World → Prop) : Nat → Array Bool → Act → World → Prop
  | 0, listed, a, w => C w ∧ L listed a w
  | fuel + 1, listed, a, w => C w ∧ Region.ready md ops listed ≠ [] ∧
    ∀ i ∈ Region.ready md ops listed, i < n ∧ wpOp P ops Q i (anyT P md ops C Q n L fuel (listed.setIfInBounds i true)) a w
theorem any_of_anyT {Q : Exit → Act → World → Prop} {n g : Nat} {L : Array Bool → Act → World → Prop} (hL : ∀ listed a w, L listed a w → wpAny P md ops Q g listed a w) :
    ∀ (f : Nat) (listed : Array Bool) (a : Act) (w : World), anyT P md ops C Q n L f listed a w → wpAny P md ops Q (f + g) listed a w
  | 0, _, _, _, h => by rw [Nat.zero_add]; exact hL _ _ _ h.2
  | f + 1, _, _, _, h => by
    rw [show f + 1 + g = (f + g) + 1 by omega]
    exact ⟨fun h0 => absurd h0 h.2.1, fun i hi => wpOp_mono (fun a' w' h' => any_of_anyT hL f _ a' w' h') (h.2.2 i hi).2⟩

theorem anyT_in {Q : Exit → Act → World → Prop} {n : Nat} {L : Array Bool → Act → World → Prop} : ∀ {f : Nat} {listed : Array Bool} {a : Act} {w : World}, anyT P md ops C Q n L f listed a w → C w
  | 0, _, _, _, h => h.1
  | _ + 1, _, _, _, h => h.1

theorem anyT_first {Q : Exit → Act → World → Prop} {n i : Nat} {oi : Oper} {v : Value} {L : Array Bool → Act → World → Prop} (hi : ops[i]? = some oi) (hsel : ∀ (j : Nat) (o : Oper) cs b, ops[j]? = some o → o.op ≠ .select cs b)
    (hQ : ∀ c a d v w, Q (.panic c) (a.put d v) w → Q (.panic c) a w)
    (hs : Region.sinkB md ops n = true) (hc : Region.chainB md ops n = true) (hn : n < ops.size) (hin : i < n) (hdone : ∀ listed a w, L listed a w → ∀ j ∈ Region.ready md ops listed, n ≤ j) :
    ∀ (f : Nat) (listed : Array Bool) (a : Act) (w : World), HeadInv md ops n listed →
      (∀ j oj, ops[j]? = some oj → j ≠ i → listed.getD j true = false → (∀ e ∈ oj.after, Region.binds md e = true → e.on ≠ i) → oi.apart ops oj = true) →
      i ∈ Region.ready md ops listed → Stays P ops C oi v a →
      anyT P md ops C Q n L f (listed.setIfInBounds i true) (a.put oi.dst v) w → anyT P md ops C Q n L (f + 1) listed a w := by
  intro f
  induction f with
  | zero =>
    intro listed a w inv _ hr hy H
    have hun := (mem_ready.1 hr).1
    refine ⟨H.1, fun h => (by rw [h] at hr; cases hr), fun j hj => ?_⟩
    have hjn : j < n := (Nat.lt_or_ge j n).elim id fun h => absurd hj (tail_waits hs hc hn inv _ i rfl hin hun j h)
    refine ⟨hjn, ?_⟩
    by_cases hji : j = i
    · subst hji; exact hy.wpOp hi H.1 H
    · have := hdone _ _ _ H.2 j (ready_mono hj hji)
      omega
  | succ f ih =>
    intro listed a w inv hfree hr hy H
    have hun := (mem_ready.1 hr).1
    refine ⟨H.1, fun h => (by rw [h] at hr; cases hr), fun j hj => ?_⟩
    have hjn : j < n := (Nat.lt_or_ge j n).elim id fun h => absurd hj (tail_waits hs hc hn inv _ i rfl hin hun j h)
    refine ⟨hjn, ?_⟩
    by_cases hji : j = i
    · subst hji; exact hy.wpOp hi H.1 H
    · have h1 := (H.2.2 j (ready_mono hj hji)).2
      obtain ⟨hjun, oj, hoj, hall⟩ := mem_ready.1 hj
      have hnot : ∀ e ∈ oj.after, Region.binds md e = true → e.on ≠ i := fun e he hb heq => by
        have h1 := hall e he hb
        rw [heq, getD_both hun] at h1
        cases h1
      have h2 := wpOp_stays hoj (hfree j oj hoj hji hjun hnot) (fun cs b => hsel i oi cs b hi) (fun cs b => hsel j oj cs b hoj) hQ hy h1
      refine wpOp_mono (fun a' w' h3 => ih (listed.setIfInBounds j true) a' w' (inv.set hj hjn) (fun k ok hk hki hun' hno => ?_) (ready_mono hr (Ne.symm hji)) h3.1 ?_) h2
      · refine hfree k ok hk hki ?_ hno
        by_cases hjk : j = k
        · subst hjk; exact hjun
        · rw [getD_set_ne true hjk] at hun'; exact hun'
      · rw [Array.setIfInBounds_comm _ _ hji]
        exact h3.2

def headFrom (md : Region.Mode) (ops : Array Oper) (n : Nat) : List Nat → Array Bool → Bool
  | [], listed => Region.seqB md ops 1 n listed
  | i :: l, listed => decide (i < n) && (match ops[i]? with
      | none => false
      | some o => if plainB o.op then (Region.ready md ops listed).contains i && Region.free md ops listed i else Region.ready md ops listed == [i]) && headFrom md ops n l (listed.setIfInBounds i true)
def mixTB (md : Region.Mode) (l : List Oper) (π : List Nat) (n : Nat) : Bool :=
  Region.noSelect l.toArray && decide (n + 1 = l.length) && (π.length == n) && Region.sinkB md l.toArray n && Region.chainB md l.toArray n && (π.all fun i => decide (i < l.length)) && headFrom md l.toArray n π (Array.replicate l.length false)

/-- What is asked behind the head. -/
def tailQ (P : Program) (ops : Array Oper) (Q : Exit → Act → World → Prop) (tail : List Oper) (e : Exit) (a : Act) (w : World) : Prop :=
  match e with
  | .normal => wpList P ops Q tail a w
  | e => Q e a w

theorem anyT_of_mix {Q : Exit → Act → World → Prop} {n : Nat} {tail : List Oper} (hs : Region.noSelect ops = true) (hsk : Region.sinkB md ops n = true) (hch : Region.chainB md ops n = true) (hn : n < ops.size) (hQ : ∀ c a d v w, Q (.panic c) (a.put d v) w → Q (.panic c) a w) :
    ∀ (π : List Nat) (l : List Oper) (listed : Array Bool) (a : Act) (w : World), π.map (ops[·]?) = l.map some → HeadInv md ops n listed →
    headFrom md ops n π listed = true → C w → wpMix P ops C (tailQ P ops Q tail) l a w → anyT P md ops C Q n (fun listed a w => Region.seqB md ops 1 n listed = true ∧ wpList P ops Q tail a w) π.length listed a w
  | [], [], listed, a, w, _, _, hB, hC, h => ⟨hC, by simpa [headFrom] using hB, h⟩
  | [], _ :: _, _, _, _, hl, _, _, _, _ => by simp at hl
  | _ :: _, [], _, _, _, hl, _, _, _, _ => by simp at hl
  | i :: π, o :: l, listed, a, w, hl, inv, hB, hC, h => by
    simp only [List.map_cons, List.cons.injEq] at hl
    obtain ⟨h0, hl⟩ := hl
    simp only [headFrom, h0, Bool.and_eq_true, decide_eq_true_eq] at hB
    obtain ⟨⟨hin, hB0⟩, hB'⟩ := hB
    rw [List.length_cons]
    by_cases hp : plainB o.op = true
    · simp only [hp, if_true, Bool.and_eq_true] at hB0
      obtain ⟨hr, hf⟩ := hB0
      have hr' : i ∈ Region.ready md ops listed := by simpa using hr
      have key : ∃ v, Stays P ops C o v a ∧ wpMix P ops C (tailQ P ops Q tail) l (a.put o.dst v) w := by
        rw [wpMix] at h
        by_cases hw : Region.wanted o (yielded ops a.tmps) = true
        · simp only [hw, hp, if_true] at h
          obtain ⟨v, hv, hK⟩ := h
          exact ⟨v, .inl ⟨hw, fun w' hw' => plain_stays hp (hv w' hw')⟩, hK⟩
        · simp only [hw] at h
          exact ⟨undef, .inr ⟨by simpa using hw, rfl⟩, h⟩
      obtain ⟨v, hy, hK⟩ := key
      exact anyT_first h0 (Region.noSelect_spec hs) hQ hsk hch hn hin (fun listed' a' w' hL => seqB_ready hL.1) π.length listed a w inv (Region.free_spec h0 hf) hr' hy
        (anyT_of_mix hs hsk hch hn hQ π l _ _ _ hl (inv.set hr' hin) hB' hC hK)
    · simp only [hp] at hB0
      have hr : Region.ready md ops listed = [i] := by simpa using hB0
      have hr' : i ∈ Region.ready md ops listed := by rw [hr]; simp
      refine ⟨hC, fun h' => (by rw [hr] at h'; cases h'), fun j hj => ?_⟩
      rw [hr] at hj
      obtain rfl := List.mem_singleton.1 hj
      refine ⟨hin, ?_⟩
      rw [wpMix] at h
      unfold wpOp
      simp only [h0]
      by_cases hw : Region.wanted o (yielded ops a.tmps) = true
      · simp only [hw, hp, if_true] at h ⊢
        rcases h with h | ⟨h, h'⟩
        · refine .inl ?_
          have hL : LetsOut (tailQ P ops Q tail) → LetsOut Q := fun ⟨a, w, h⟩ => ⟨a, w, h⟩
          unfold Oper.wp at *
          generalize (execOp a.eval o).run P w = r at *
          have step : ∀ a' w', (C w' ∧ wpMix P ops C (tailQ P ops Q tail) l a' w') → anyT P md ops C Q n (fun listed a w => Region.seqB md ops 1 n listed = true ∧ wpList P ops Q tail a w) π.length (listed.setIfInBounds j true) a' w' :=
            fun a' w' hh => anyT_of_mix hs hsk hch hn hQ π l _ _ _ hl (inv.set hr' hin) hB' hh.1 hh.2
          cases r with
          | ok nx w' =>
            cases nx <;> simp only [Oper.upon] at h ⊢
            case value u => exact step _ _ h
            case skip => exact step _ _ h
            case defer d => exact step _ _ h
            case enter f args =>
              refine Calls.mono h fun e w'' he => ?_
              cases e with
              | returned u => exact step _ _ he
              | panicked c => exact he
              | outgrown => exact hL he
            case row row args => exact Rows.mono h fun u w'' he => step _ _ he
          | halt x w' =>
            cases x <;> simp only [Oper.upon] at h ⊢
            case panic u => exact h
        · exact .inr ⟨h, (fun ⟨a, w, h⟩ => ⟨a, w, h⟩ : LetsOut (tailQ P ops Q tail) → LetsOut Q) h'⟩
      · simp only [hw] at h ⊢
        exact anyT_of_mix hs hsk hch hn hQ π l _ _ _ hl (inv.set hr' hin) hB' hC h

/-- The law. -/
theorem wp_region_mixed_tail {id : Nat} {Q : Exit → Act → World → Prop} {a : Act} {w : World} {l : List Oper} (π : List Nat) (n : Nat) (R : World → Prop) (hm : P.follows .mixedOrders = true) (hB : mixTB .any l π n = true)
    (hQ : ∀ c a d v w, Q (.panic c) (a.put d v) w → Q (.panic c) a w) (hC : R w.drew) (h : Nonempty (In R) → wpMix P l.toArray (fun w' => ∃ p : In R, w' = p.w) (tailQ P l.toArray Q (l.drop n)) (pick l π) a w.drew) : (Code.region id l.toArray true).wp P Q a w := by
  simp only [mixTB, Bool.and_eq_true, beq_iff_eq, decide_eq_true_eq] at hB
  obtain ⟨⟨⟨⟨⟨⟨hsel, hn⟩, hpl⟩, hs⟩, hc⟩, hall⟩, hh⟩ := hB
  have hsz : l.toArray.size = l.length := by simp
  have inv0 : HeadInv .any l.toArray n (Array.replicate l.length false) :=
    ⟨by simp, fun j oj _ hl => (by rw [getD_replicate_false] at hl; cases hl), fun t _ ht => getD_in (by simpa using ht) (getD_replicate_false _ _)⟩
  refine wp_region_any hm ?_
  have := any_of_anyT (g := 1) (fun listed' a' w' hL => by
    have hdl : (l.drop n).length = 1 := by simp; omega
    have := wpAny_of_seq (md := .any) (Q' := Q) (l.drop n) n listed' a' w' (fun j => by simp [List.getElem?_drop]) (by rw [hdl]; exact hL.1) hL.2
    rwa [hdl] at this) _ _ _ _ (anyT_of_mix hsel hs hc (by omega) hQ π (pick l π) _ _ _ (pick_spec hall) inv0 hh ⟨⟨_, hC⟩, rfl⟩ (h ⟨⟨_, hC⟩⟩))
  rw [hpl] at this
  rw [hsz, ← hn]
  rw [← hn] at this
  exact this
end
end Go.Proofs.Ytggbhakkgbfneaa

/- A region that draws its order and holds calls that change the world, one behind the other, beside operations that only read cells that these calls leave alone: one walk serves every order. The walk is in an order that is named: each reading operation as soon as it may come up, each call when nothing else may. -/
import Derived.StillTail
import Derived.Deep.Quiet
import Derived.BigQuiet
namespace Go.Proofs.Ytggbhakkgbfneaa
open Go

/-- The worlds of a class, one by one. -/
structure In (R : World → Prop) where
  w : World
  h : R w

/-- Operations that only read. -/
def plainB : Op → Bool
  | .move _ | .assign _ | .pick .. | .load .. | .nilCheck _ | .binOp .. | .unOp .. | .convert .. | .slice .. | .fieldAddr .. | .field .. | .indexAddr .. | .index .. | .extract .. => true
  | .call c => match c.callee with
    | .builtin .len => true
    | .builtin .cap => true
    | _ => false
  | _ => false

section
variable {P : Program} {ops : Array Oper} {md : Region.Mode} {C : World → Prop}

def NoEnter (P : Program) (s : Sem Next) : Prop := ∀ (w w' : World) (f : FuncId) (args : Array Value), s.run P w ≠ .ok (.enter f args) w'
theorem NoEnter.value (v : Value) : NoEnter P (pure (.value v)) := fun w w' f args => by simp [Sem.run_pure]
theorem NoEnter.bind {α : Type} (s : Sem α) {k : α → Sem Next} (h : ∀ x, NoEnter P (k x)) : NoEnter P (s >>= k) := fun w w' f args => by
  rw [Sem.run_bind]
  cases s.run P w with
  | ok v w1 => exact h v w1 w' f args
  | halt x w1 => simp [Result.andThen]
theorem NoEnter.stop (x : Halt) : NoEnter P (Sem.halt x) := fun w w' f args h => by cases h
theorem NoEnter.nil : NoEnter P (runtimePanic .nilDeref) := .bind _ fun _ => .stop _

theorem plain_no {o : Oper} (h : plainB o.op = true) (ρ : Operand → Value) : NoEnter P (execOp ρ o) := by
  obtain ⟨dst, op, type, pos, after, guard⟩ := o
  cases op <;> simp only [plainB] at h <;> simp only [execOp]
  case nilCheck x =>
    split
    · exact .nil
    · exact .nil
    · exact .nil
    · split
      · exact .nil
      · refine .bind _ fun _ => .bind _ fun _ => ?_
        split
        · exact .bind _ fun _ => .value _
        · exact .value _
      · exact .value _
    · exact .value _
  case call c =>
    unfold resolve
    cases hc : c.callee with
    | value f => simp [hc] at h
    | invoke r m => simp [hc] at h
    | builtin b =>
      cases b <;> simp [hc] at h
      · intro w w' f args
        rw [Sem.run_bind, Sem.run_pure, Result.andThen_ok]
        show Sem.run P (do pure (Next.value (← Builtin.cap_ c.argTypes type (c.args.map ρ)))) w ≠ _
        exact (NoEnter.bind (P := P) (Builtin.cap_ _ _ _) fun _ => .value _) w w' f args
      · intro w w' f args
        rw [Sem.run_bind, Sem.run_pure, Result.andThen_ok]
        show Sem.run P (do pure (Next.value (← Builtin.len_ c.argTypes type (c.args.map ρ)))) w ≠ _
        exact (NoEnter.bind (P := P) (Builtin.len_ _ _ _) fun _ => .value _) w w' f args
  all_goals first | exact .value _ | (refine .bind _ fun _ => ?_; exact .value _) | cases h

/-- A reading operation, quiet in a class: in each world of it, it hands back the very world. -/
theorem plain_stays {o : Oper} {a : Act} {w : World} {v : Value} (h : plainB o.op = true) (hq : o.quietAt P a C w v) :
    (execOp a.eval o).run P w = .ok (.value v) w ∨ (execOp a.eval o).run P w = .ok .skip w ∧ v = undef := by
  have hn := plain_no (P := P) h a.eval
  unfold Oper.quietAt at hq
  generalize hr : (execOp a.eval o).run P w = r at hq
  cases r with
  | ok n w' =>
    cases n <;> simp only [Oper.quietUpon] at hq
    case value u => obtain ⟨rfl, rfl⟩ := hq; exact .inl rfl
    case skip => obtain ⟨rfl, rfl⟩ := hq; exact .inr ⟨rfl, rfl⟩
    case enter f args => exact absurd hr (hn _ _ _ _)
  | halt x w' => simp only [Oper.quietUpon] at hq

/-- Whatever order is picked from here on, each state's world being of the class. -/
def anyC (P : Program) (md : Region.Mode) (ops : Array Oper) (C : World → Prop) (Q : Exit → Act → World → Prop) : Nat → Array Bool → Act → World → Prop
  | 0, listed, a, w => C w ∧ Region.ready md ops listed = [] ∧ Q .normal a w
  | fuel + 1, listed, a, w => C w ∧ (Region.ready md ops listed = [] → Q .normal a w) ∧
    ∀ i ∈ Region.ready md ops listed, wpOp P ops Q i (anyC P md ops C Q fuel (listed.setIfInBounds i true)) a w
theorem any_of_anyC {Q : Exit → Act → World → Prop} : ∀ (fuel : Nat) (listed : Array Bool) (a : Act) (w : World), anyC P md ops C Q fuel listed a w → wpAny P md ops Q fuel listed a w
  | 0, _, _, _, h => h.2
  | fuel + 1, _, _, _, h => ⟨h.2.1, fun i hi => wpOp_mono (fun a' w' => any_of_anyC fuel _ a' w') (h.2.2 i hi)⟩
theorem anyC_in {Q : Exit → Act → World → Prop} : ∀ {fuel : Nat} {listed : Array Bool} {a : Act} {w : World}, anyC P md ops C Q fuel listed a w → C w
  | 0, _, _, _, h => h.1
  | _ + 1, _, _, _, h => h.1

/-- In every world of the class, this operation leaves v in its temporary and the world as it is. -/
def Stays (P : Program) (ops : Array Oper) (C : World → Prop) (o : Oper) (v : Value) (a : Act) : Prop :=
  (Region.wanted o (yielded ops a.tmps) = true ∧ ∀ w, C w → (execOp a.eval o).run P w = .ok (.value v) w ∨ (execOp a.eval o).run P w = .ok .skip w ∧ v = undef) ∨
  (Region.wanted o (yielded ops a.tmps) = false ∧ v = undef)
theorem Stays.wpOp {i : Nat} {o : Oper} {v : Value} {a : Act} {Q : Exit → Act → World → Prop} (hi : ops[i]? = some o) (hy : Stays P ops C o v a) {K : Act → World → Prop} {w : World} (hw : C w) (h : K (a.put o.dst v) w) : wpOp P ops Q i K a w := by
  unfold Go.wpOp
  simp only [hi]
  rcases hy with ⟨hwt, hv⟩ | ⟨hwt, rfl⟩
  · simp only [hwt, if_true]
    refine .inl ?_
    unfold Oper.wp
    rcases hv w hw with e | ⟨e, rfl⟩
    · rw [e]; exact h
    · rw [e]; exact h
  · simp only [hwt, Bool.false_eq_true, if_false]; exact h
theorem Stays.of_same {o : Oper} {v : Value} {a a' : Act} (hy : Stays P ops C o v a) (he : execOp a'.eval o = execOp a.eval o)
    (hw : Region.wanted o (yielded ops a'.tmps) = Region.wanted o (yielded ops a.tmps)) : Stays P ops C o v a' := by
  unfold Stays at *
  rw [he, hw]
  exact hy
theorem wpOp_stays {j : Nat} {oi oj : Oper} {v : Value} {Q : Exit → Act → World → Prop} (hj : ops[j]? = some oj) (hap : oi.apart ops oj = true)
    (hsi : ∀ cs b, oi.op ≠ .select cs b) (hsj : ∀ cs b, oj.op ≠ .select cs b)
    (hQ : ∀ c a d v w, Q (.panic c) (a.put d v) w → Q (.panic c) a w) {K : Act → World → Prop} {a : Act} {w : World}
    (hy : Stays P ops C oi v a) (h : wpOp P ops Q j K (a.put oi.dst v) w) :
    wpOp P ops Q j (fun a' w' => Stays P ops C oi v a' ∧ K (a'.put oi.dst v) w') a w := by
  obtain ⟨h1, h2, h3⟩ := Oper.apart_spec hap
  have keep : ∀ (a : Act), Stays P ops C oi v a → ∀ u, Stays P ops C oi v (a.put oj.dst u) := fun a hy u =>
    hy.of_same (execOp_put oi hsi a oj.dst u h3) (wanted_put oi a oj.dst u h3)
  have keepD : ∀ d, Stays P ops C oi v { a with defers := d :: a.defers } := fun d => hy.of_same rfl rfl
  unfold wpOp at *
  simp only [hj] at *
  rw [wanted_put oj a oi.dst v h1] at h
  split
  · rename_i hw
    simp only [hw, if_true] at h
    rcases h with h | ⟨hasks, hlets⟩
    case inr => exact .inr ⟨by unfold Oper.asks at *; rw [execOp_put oj hsj a oi.dst v h1] at hasks; exact hasks, hlets⟩
    refine .inl ?_
    unfold Oper.wp at *
    rw [execOp_put oj hsj a oi.dst v h1] at h
    generalize (execOp a.eval oj).run P w = r at *
    cases r with
    | ok n w' =>
      cases n <;> simp only [Oper.upon] at h ⊢
      case value u => exact ⟨keep a hy u, by rw [← Act.put_comm a v u h2]; exact h⟩
      case skip => exact ⟨keep a hy _, by rw [← Act.put_comm a v undef h2]; exact h⟩
      case defer d =>
        refine ⟨keep _ (keepD d) _, ?_⟩
        rw [← Act.put_comm _ v undef h2, ← Act.put_defers]
        exact h
      case enter f args =>
        refine Calls.mono h fun e w'' he => ?_
        cases e with
        | returned u => exact ⟨keep a hy u, by rw [← Act.put_comm a v u h2]; exact he⟩
        | panicked c => exact hQ _ _ _ _ _ he
        | outgrown => exact he
      case row row args => exact Rows.mono h fun u w'' he => ⟨keep a hy u, by rw [← Act.put_comm a v u h2]; exact he⟩
    | halt x w' =>
      cases x <;> simp only [Oper.upon] at h ⊢
      case panic u => exact hQ _ _ _ _ _ h
  · rename_i hw
    simp only [hw] at h
    exact ⟨keep a hy _, by rw [← Act.put_comm a v undef h2]; exact h⟩

theorem anyC_first {Q : Exit → Act → World → Prop} {i : Nat} {oi : Oper} {v : Value} (hi : ops[i]? = some oi) (hsel : ∀ (j : Nat) (o : Oper) cs b, ops[j]? = some o → o.op ≠ .select cs b)
    (hQ : ∀ c a d v w, Q (.panic c) (a.put d v) w → Q (.panic c) a w) :
    ∀ (fuel : Nat) (listed : Array Bool) (a : Act) (w : World),
      (∀ j oj, ops[j]? = some oj → j ≠ i → listed.getD j true = false → (∀ e ∈ oj.after, Region.binds md e = true → e.on ≠ i) → oi.apart ops oj = true) →
      i ∈ Region.ready md ops listed → Stays P ops C oi v a →
      anyC P md ops C Q fuel (listed.setIfInBounds i true) (a.put oi.dst v) w → anyC P md ops C Q (fuel + 1) listed a w := by
  intro fuel
  induction fuel with
  | zero =>
    intro listed a w _ hr hy H
    refine ⟨H.1, fun h => (by rw [h] at hr; cases hr), fun j hj => ?_⟩
    by_cases hji : j = i
    · subst hji; exact hy.wpOp hi H.1 H
    · have := ready_mono hj hji
      rw [H.2.1] at this
      cases this
  | succ fuel ih =>
    intro listed a w hfree hr hy H
    refine ⟨H.1, fun h => (by rw [h] at hr; cases hr), fun j hj => ?_⟩
    by_cases hji : j = i
    · subst hji; exact hy.wpOp hi H.1 H
    · have h1 := H.2.2 j (ready_mono hj hji)
      obtain ⟨hjun, oj, hoj, hall⟩ := mem_ready.1 hj
      have hnot : ∀ e ∈ oj.after, Region.binds md e = true → e.on ≠ i := fun e he hb heq => by
        have h1 := hall e he hb
        have h0 := (mem_ready.1 hr).1
        rw [heq] at h1
        rcases Nat.lt_or_ge i listed.size with h' | h'
        · simp [h'] at h0 h1; rw [h0] at h1; cases h1
        · simp [Array.getElem?_eq_none h'] at h1
      have h2 := wpOp_stays hoj (hfree j oj hoj hji hjun hnot) (fun cs b => hsel i oi cs b hi) (fun cs b => hsel j oj cs b hoj) hQ hy h1
      have hfree' : ∀ k ok, ops[k]? = some ok → k ≠ i → (listed.setIfInBounds j true).getD k true = false →
          (∀ e ∈ ok.after, Region.binds md e = true → e.on ≠ i) → oi.apart ops ok = true := fun k ok hk hki hun hno => by
        refine hfree k ok hk hki ?_ hno
        by_cases hjk : j = k
        · subst hjk; exact hjun
        · rw [getD_set_ne true hjk] at hun; exact hun
      refine wpOp_mono (fun a' w' h3 => ih (listed.setIfInBounds j true) a' w' hfree' (ready_mono hr (Ne.symm hji)) h3.1 ?_) h2
      rw [Array.setIfInBounds_comm _ _ hji]
      exact h3.2

/-- The order that is named: a reading operation as soon as it may come up, another one when nothing else may. -/
def mixFrom (md : Region.Mode) (ops : Array Oper) : List Nat → Array Bool → Bool
  | [], listed => (Region.ready md ops listed).isEmpty
  | i :: l, listed => (match ops[i]? with
      | none => false
      | some o => if plainB o.op then (Region.ready md ops listed).contains i && Region.free md ops listed i else Region.ready md ops listed == [i]) && mixFrom md ops l (listed.setIfInBounds i true)
def mixB (md : Region.Mode) (ops : Array Oper) (π : List Nat) : Bool := Region.noSelect ops && π.length == ops.size && mixFrom md ops π (Array.replicate ops.size false)

/-- The walk in that order. -/
def wpMix (P : Program) (ops : Array Oper) (C : World → Prop) (Q : Exit → Act → World → Prop) : List Oper → Act → World → Prop
  | [], a, w => Q .normal a w
  | o :: rest, a, w =>
    if Region.wanted o (yielded ops a.tmps) then
      if plainB o.op then ∃ v, (∀ w, C w → o.quietAt P a C w v) ∧ wpMix P ops C Q rest (a.put o.dst v) w
      else o.wp P a w (fun a' w' => C w' ∧ wpMix P ops C Q rest a' w') Q ∨ (o.asks P a w ∧ LetsOut Q)
    else wpMix P ops C Q rest (a.put o.dst undef) w

theorem anyC_of_mix {Q : Exit → Act → World → Prop} (hs : Region.noSelect ops = true) (hQ : ∀ c a d v w, Q (.panic c) (a.put d v) w → Q (.panic c) a w) : ∀ (π : List Nat) (l : List Oper) (listed : Array Bool) (a : Act) (w : World), π.map (ops[·]?) = l.map some →
    mixFrom md ops π listed = true → C w → wpMix P ops C Q l a w → anyC P md ops C Q π.length listed a w
  | [], [], listed, a, w, _, hB, hC, h => ⟨hC, by simpa [mixFrom] using hB, h⟩
  | [], _ :: _, _, _, _, hl, _, _, _ => by simp at hl
  | _ :: _, [], _, _, _, hl, _, _, _ => by simp at hl
  | i :: π, o :: l, listed, a, w, hl, hB, hC, h => by
    simp only [List.map_cons, List.cons.injEq] at hl
    obtain ⟨h0, hl⟩ := hl
    simp only [mixFrom, h0, Bool.and_eq_true] at hB
    obtain ⟨hB0, hB'⟩ := hB
    rw [List.length_cons]
    by_cases hp : plainB o.op = true
    · simp only [hp, if_true, Bool.and_eq_true] at hB0
      obtain ⟨hr, hf⟩ := hB0
      have key : ∃ v, Stays P ops C o v a ∧ wpMix P ops C Q l (a.put o.dst v) w := by
        rw [wpMix] at h
        by_cases hw : Region.wanted o (yielded ops a.tmps) = true
        · simp only [hw, hp, if_true] at h
          obtain ⟨v, hv, hK⟩ := h
          exact ⟨v, .inl ⟨hw, fun w' hw' => plain_stays hp (hv w' hw')⟩, hK⟩
        · simp only [hw] at h
          exact ⟨undef, .inr ⟨by simpa using hw, rfl⟩, h⟩
      obtain ⟨v, hy, hK⟩ := key
      exact anyC_first h0 (Region.noSelect_spec hs) hQ π.length listed a w (Region.free_spec h0 hf) (by simpa using hr) hy
        (anyC_of_mix hs hQ π l _ _ _ hl hB' hC hK)
    · simp only [hp] at hB0
      have hr : Region.ready md ops listed = [i] := by simpa using hB0
      refine ⟨hC, fun h' => (by rw [hr] at h'; cases h'), fun j hj => ?_⟩
      rw [hr] at hj
      obtain rfl := List.mem_singleton.1 hj
      rw [wpMix] at h
      unfold wpOp
      simp only [h0]
      by_cases hw : Region.wanted o (yielded ops a.tmps) = true
      · simp only [hw, hp, if_true] at h ⊢
        rcases h with h | h
        · exact .inl (Oper.wp_mono (fun a' w' ⟨hc, hk⟩ => anyC_of_mix hs hQ π l _ _ _ hl hB' hc hk) h)
        · exact .inr h
      · simp only [hw] at h ⊢
        exact anyC_of_mix hs hQ π l _ _ _ hl hB' hC h

/-- The operations in that order. -/
def pick (l : List Oper) (π : List Nat) : List Oper := π.map fun i => l.getD i ⟨none, .move (.tmp 0), 0, "", #[], none⟩
theorem pick_spec {l : List Oper} : ∀ {π : List Nat}, (π.all fun i => decide (i < l.length)) = true → π.map (l.toArray[·]?) = (pick l π).map some
  | [], _ => rfl
  | i :: π, h => by
    simp only [List.all_cons, Bool.and_eq_true, decide_eq_true_eq] at h
    have := pick_spec (π := π) (l := l) h.2
    unfold pick at *
    rw [List.map_cons, List.map_cons, List.map_cons, this]
    simp [h.1]

/-- The law. -/
theorem wp_region_mixed {id : Nat} {Q : Exit → Act → World → Prop} {a : Act} {w : World} {l : List Oper} (π : List Nat) (R : World → Prop) (hm : P.follows .mixedOrders = true) (hB : (mixB .any l.toArray π && π.all fun i => decide (i < l.length)) = true)
    (hQ : ∀ c a d v w, Q (.panic c) (a.put d v) w → Q (.panic c) a w) (hC : R w.drew) (h : Nonempty (In R) → wpMix P l.toArray (fun w' => ∃ p : In R, w' = p.w) Q (pick l π) a w.drew) : (Code.region id l.toArray true).wp P Q a w := by
  simp only [mixB, Bool.and_eq_true, beq_iff_eq] at hB
  refine wp_region_any hm ?_
  have := any_of_anyC _ _ _ _ (anyC_of_mix hB.1.1.1 hQ π (pick l π) _ _ _ (pick_spec hB.2) hB.1.2 ⟨⟨_, hC⟩, rfl⟩ (h ⟨⟨_, hC⟩⟩))
  rwa [hB.1.1.2] at this

theorem wpMix_nil {Q : Exit → Act → World → Prop} {a : Act} {w : World} (h : Q .normal a w) : wpMix P ops C Q [] a w := h
/-- The next n operations read. -/
theorem wpMix_quiet {Q : Exit → Act → World → Prop} {w : World} : ∀ (l rest : List Oper) (a : Act), (l.all fun o => plainB o.op) = true → wpQuiet P ops C (fun a' => wpMix P ops C Q rest a' w) l a → wpMix P ops C Q (l ++ rest) a w
  | [], _, _, _, h => h
  | o :: l, rest, a, hp, h => by
    simp only [List.all_cons, Bool.and_eq_true] at hp
    rw [List.cons_append, wpMix]
    rw [wpQuiet] at h
    split
    · rename_i hw
      simp only [hw, hp.1, if_true] at h ⊢
      obtain ⟨v, hv, hK⟩ := h
      exact ⟨v, hv, wpMix_quiet l rest _ hp.2 hK⟩
    · rename_i hw
      simp only [hw] at h
      exact wpMix_quiet l rest _ hp.2 h
theorem wpMix_reads {Q : Exit → Act → World → Prop} {w : World} {a : Act} (n : Nat) (l : List Oper) (hp : ((l.take n).all fun o => plainB o.op) = true) (h : wpQuiet P ops C (fun a' => wpMix P ops C Q (l.drop n) a' w) (l.take n) a) : wpMix P ops C Q l a w := by
  have := wpMix_quiet (P := P) (ops := ops) (C := C) (Q := Q) (w := w) (l.take n) (l.drop n) a hp h
  rwa [List.take_append_drop] at this
/-- The next operation is passed over. -/
theorem wpMix_skip {Q : Exit → Act → World → Prop} {w : World} {a : Act} {o : Oper} {rest : List Oper} (hw : Region.wanted o (yielded ops a.tmps) = false) (h : wpMix P ops C Q rest (a.put o.dst undef) w) : wpMix P ops C Q (o :: rest) a w := by
  rw [wpMix, hw]
  exact h
/-- What is asked behind a call. -/
def mixQ (C : World → Prop) (Q : Exit → Act → World → Prop) (N : Act → World → Prop) (e : Exit) (a : Act) (w : World) : Prop :=
  match e with
  | .normal => C w ∧ N a w
  | e => Q e a w
/-- The next operation acts. -/
theorem wpMix_act {Q : Exit → Act → World → Prop} {w : World} {a : Act} {o : Oper} {rest : List Oper} (hp : plainB o.op = false) (h : wpList P ops (mixQ C Q (wpMix P ops C Q rest)) [o] a w)
    (hskip : Region.wanted o (yielded ops a.tmps) = true) : wpMix P ops C Q (o :: rest) a w := by
  have hL : LetsOut (mixQ C Q (wpMix P ops C Q rest)) → LetsOut Q := fun ⟨a, w, h⟩ => ⟨a, w, h⟩
  rw [wpMix]
  rw [wpList] at h
  simp only [hskip, hp, if_true] at h ⊢
  rcases h with h | ⟨h1, h2⟩
  · refine .inl ?_
    unfold Oper.wp at *
    generalize (execOp a.eval o).run P w = r at *
    cases r with
    | ok n w' =>
      cases n <;> simp only [Oper.upon] at h ⊢
      case value u => exact h
      case skip => exact h
      case defer d => exact h
      case enter f args =>
        refine Calls.mono h fun e w'' he => ?_
        cases e with
        | returned u => exact he
        | panicked c => exact he
        | outgrown => exact hL he
      case row row args => exact h
    | halt x w' =>
      cases x <;> simp only [Oper.upon] at h ⊢
      case panic u => exact h
  · exact .inr ⟨h1, hL h2⟩
end
end Go.Proofs.Ytggbhakkgbfneaa

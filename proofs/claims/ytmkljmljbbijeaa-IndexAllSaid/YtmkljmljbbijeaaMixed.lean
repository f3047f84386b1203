/- A region that draws its order and holds calls that change the world, one behind the other, beside operations that only read cells that these calls leave alone: one walk serves every order. The walk is in an order that is named: each reading operation as soon as it may come up, each call when nothing else may. -/
import Derived.StillTail
import Derived.Deep.Quiet
import Derived.BigQuiet
namespace Go.Proofs.Ytmkljmljbbijeaa
open Go

/-- The worlds of a class, one by one. -/
structure In (R : World → Prop) where
  w : World
  h : R w

/-- Operations that only read. -/
def plainB : Op → Bool
  | .move _ | .assign _ | .pick .. | .load .. | .nilCheck _ | .binOp .. | .unOp .. | .convert .. | .slice .. | .fieldAddr .. | .field .. | .indexAddr .. | .index .. | .extract .. => true
  | .call c => match c.callee with
    | .builtin .len => true
    | .builtin .cap => true
    | _ => false
  | _ => false

section
variable {P : Program} {ops : Array Oper} {md : Region.Mode} {C : World → Prop}

def NoEnter (P : Program) (s : Sem Next) : Prop := ∀ (w w' : World) (f : FuncId) (args : Array Value), s.run P w ≠ .ok (.enter f args) w'
theorem NoEnter.value (v : Value) : NoEnter P (pure (.value v)) := fun w w' f args => by simp [Sem.run_pure]
theorem NoEnter.bind {α : Type} (s : Sem α) {k : α → Sem Next} (h : ∀ x, NoEnter P (k x)) : NoEnter P (s >>= k) := fun w w' f args => by
  rw [Sem.run_bind]
  cases s.run P w with
  | ok v w1 => exact h v w1 w' f args
  | halt x w1 => simp [Result.andThen]
theorem NoEnter.stop (x : Halt) : NoEnter P (Sem.halt x) := fun w w' f args h => by cases h
theorem NoEnter.nil : NoEnter P (runtimePanic .nilDeref) := .bind _ fun _ => .stop _

theorem plain_no {o : Oper} (h : plainB o.op = true) (ρ : Operand → Value) : NoEnter P (execOp ρ o) := by
  obtain ⟨dst, op, type, pos, after, guard⟩ := o
  cases op <;> simp only [plainB] at h <;> simp only [execOp]
  case nilCheck x =>
    split
    · exact .nil
    · exact .nil
    · exact .nil
    · split
      · exact .nil
      · refine .bind _ fun _ => .bind _ fun _ => ?_
        split
        · exact .bind _ fun _ => .value _
        · exact .value _
      · exact .value _
    · exact .value _
  case call c =>
    unfold resolve
    cases hc : c.callee with
    | value f => simp [hc] at h
    | invoke r m => simp [hc] at h
    | builtin b =>
      cases b <;> simp [hc] at h
      · intro w w' f args
        rw [Sem.run_bind, Sem.run_pure, Result.andThen_ok]
        show Sem.run P (do pure (Next.value (← Builtin.cap_ c.argTypes type (c.args.map ρ)))) w ≠ _
        exact (NoEnter.bind (P := P) (Builtin.cap_ _ _ _) fun _ => .value _) w w' f args
      · intro w w' f args
        rw [Sem.run_bind, Sem.run_pure, Result.andThen_ok]
        show Sem.run P (do pure (Next.value (← Builtin.len_ c.argTypes type (c.args.map ρ)))) w ≠ _
        exact (NoEnter.bind (P := P) (Builtin.len_ _ _ _) fun _ => .value _) w w' f args
  all_goals first | exact .value _ | (refine .bind _ fun _ => ?_; exact .value _) | cases h

/-- A reading operation, quiet in a class: in each world of it, it hands back the very world. -/
theorem plain_stays {o : Oper} {a : Act} {w : World} {v : Value} (h : plainB o.op = true) (hq : o.quietAt P a C w v) :
    (execOp a.eval o).run P w = .ok (.value v) w ∨ (execOp a.eval o).run P w = .ok .skip w ∧ v = undef := by
  have hn := plain_no (P := P) h a.eval
  unfold Oper.quietAt at hq
  generalize hr : (execOp a.eval o).run P w = r at hq
  cases r with
  | ok n w' =>
    cases n <;> simp only [Oper.quietUpon] at hq
    case value u => obtain ⟨rfl, rfl⟩ := hq; exact .inl rfl
    case skip => obtain ⟨rfl, rfl⟩ := hq; exact .inr ⟨rfl, rfl⟩
    case enter f args => exact absurd hr (hn _ _ _ _)
  | halt x w' => simp only [Oper.quietUpon] at hq

/-- Whatever order is picked from here on, each state's world being of the class. -/
def anyC (P : Program) (md : Region.Mode) (ops : Array Oper) (C : World → Prop) (Q : Exit → Act → World → Prop) : Nat → Array Bool → Act → World → Prop
  | 0, listed, a, w => C w ∧ Region.ready md ops listed = [] ∧ Q .normal a w
  | fuel + 1, listed, a, w => C w ∧ (Region.ready md ops listed = [] → Q .normal a w) ∧
    ∀ i ∈ Region.ready md ops listed, wpOp P ops Q i (anyC P md ops C Q fuel (listed.setIfInBounds i true)) a w
theorem any_of_anyC {Q : Exit → Act → World → Prop} : ∀ (fuel : Nat) (listed : Array Bool) (a : Act) (w : World), anyC P md ops C Q fuel listed a w → wpAny P md ops Q fuel listed a w
  | 0, _, _, _, h => h.2
  | fuel + 1, _, _, _, h => ⟨h.2.1, fun i hi => wpOp_mono (fun a' w' => any_of_anyC fuel _ a' w') (h.2.2 i hi)⟩
theorem anyC_in {Q : Exit → Act → World → Prop} : ∀ {fuel : Nat} {listed : Array Bool} {a : Act} {w : World}, anyC P md ops C Q fuel listed a w → C w
  | 0, _, _, _, h => h.1
  | _ + 1, _, _, _, h => h.1

/-- In every world of the class, this operation leaves v in its temporary and the world as it is. -/
def Stays (P : Program) (ops : Array Oper) (C : World → Prop) (o : Oper) (v : Value) (a : Act) : Prop :=
  (Region.wanted o (yielded ops a.tmps) = true ∧ ∀ w, C w → (execOp a.eval o).run P w = .ok (.value v) w ∨ (execOp a.eval o).run P w = .ok .skip w ∧ v = undef) ∨
  (Region.wanted o (yielded ops a.tmps) = false ∧ v = undef)
theorem Stays.wpOp {i : Nat} {o : Oper} {v : Value} {a : Act} {Q : Exit → Act → World → Prop} (hi : ops[i]? = some o) (hy : Stays P ops C o v a) {K : Act → World → Prop} {w : World} (hw : C w) (h : K (a.put o.dst v) w) : wpOp P ops Q i K a w := by
  unfold Go.wpOp
  simp only [hi]
  rcases hy with ⟨hwt, hv⟩ | ⟨hwt, rfl⟩
  · simp only [hwt, if_true]
    refine .inl ?_
    unfold Oper.wp
    rcases hv w hw with e | ⟨e, rfl⟩
    · rw [e]; exact h
    · rw [e]; exact h
  · simp only [hwt, Bool.false_eq_true, if_false]; exact h
theorem Stays.of_same {o : Oper} {v : Value} {a a' : Act} (hy : Stays P ops C o v a) (he : execOp a'.eval o = execOp a.eval o)
    (hw : Region.wanted o (yielded ops a'.tmps) = Region.wanted o (yielded ops a.tmps)) : Stays P ops C o v a' := by
  unfold Stays at *
  rw [he, hw]
  exact hy
theorem wpOp_stays {j : Nat} {oi oj : Oper} {v : Value} {Q : Exit → Act → World → Prop} (hj : ops[j]? = some oj) (hap : oi.apart ops oj = true)
    (hsi : ∀ cs b, oi.op ≠ .select cs b) (hsj : ∀ cs b, oj.op ≠ .select cs b)
    (hQ : ∀ c a d v w, Q (.panic c) (a.put d v) w → Q (.panic c) a w) {K : Act → World → Prop} {a : Act} {w : World}
    (hy : Stays P ops C oi v a) (h : wpOp P ops Q j K (a.put oi.dst v) w) :
    wpOp P ops Q j (fun a' w' => Stays P ops C oi v a' ∧ K (a'.put oi.dst v) w') a w := by
  obtain ⟨h1, h2, h3⟩ := Oper.apart_spec hap
  have keep : ∀ (a : Act), Stays P ops C oi v a → ∀ u, Stays P ops C oi v (a.put oj.dst u) := fun a hy u =>
    hy.of_same (execOp_put oi hsi a oj.dst u h3) (wanted_put oi a oj.dst u h3)
  have keepD : ∀ d, Stays P ops C oi v { a with defers := d :: a.defers } := fun d => hy.of_same rfl rfl
  unfold wpOp at *
  simp only [hj] at *
  rw [wanted_put oj a oi.dst v h1] at h
  split
  · rename_i hw
    simp only [hw, if_true] at h
    rcases h with h | ⟨hasks, hlets⟩
    case inr => exact .inr ⟨by unfold Oper.asks at *; rw [execOp_put oj hsj a oi.dst v h1] at hasks; exact hasks, hlets⟩
    refine .inl ?_
    unfold Oper.wp at *
    rw [execOp_put oj hsj a oi.dst v h1] at h
    generalize (execOp a.eval oj).run P w = r at *
    cases r with
    | ok n w' =>
      cases n <;> simp only [Oper.upon] at h ⊢
      case value u => exact ⟨keep a hy u, by rw [← Act.put_comm a v u h2]; exact h⟩
      case skip => exact ⟨keep a hy _, by rw [← Act.put_comm a v undef h2]; exact h⟩
      case defer d =>
        refine ⟨keep _ (keepD d) _, ?_⟩
        rw [← Act.put_comm _ v undef h2, ← Act.put_defers]
        exact h
      case enter f args =>
        refine Calls.mono h fun e w'' he => ?_
        cases e with
        | returned u => exact ⟨keep a hy u, by rw [← Act.put_comm a v u h2]; exact he⟩
        | panicked c => exact hQ _ _ _ _ _ he
        | outgrown => exact he
      case row row args => exact Rows.mono h fun u w'' he => ⟨keep a hy u, by rw [← Act.put_comm a v u h2]; exact he⟩
    | halt x w' =>
      cases x <;> simp only [Oper.upon] at h ⊢
      case panic u => exact hQ _ _ _ _ _ h
  · rename_i hw
    simp only [hw] at h
    exact ⟨keep a hy _, by rw [← Act.put_comm a v undef h2]; exact h⟩

theorem anyC_first {Q : Exit → Act → World → Prop} {i : Nat} {oi : Oper} {v : Value} (hi : ops[i]? = some oi) (hsel : ∀ (j : Nat) (o : Oper) cs b, ops[j]? = some o → o.op ≠ .select cs b)
    (hQ : ∀ c a d v w, Q (.panic c) (a.put d v) w → Q (.panic c) a w) :
    ∀ (fuel : Nat) (listed : Array Bool) (a : Act) (w : World),
      (∀ j oj, ops[j]? = some oj → j ≠ i → listed.getD j true = false → (∀ e ∈ oj.after, Region.binds md e = true → e.on ≠ i) → oi.apart ops oj = true) →
      i ∈ Region.ready md ops listed → Stays P ops C oi v a →
      anyC P md ops C Q fuel (listed.setIfInBounds i true) (a.put oi.dst v) w → anyC P md ops C Q (fuel + 1) listed a w := by
  intro fuel
  induction fuel with
  | zero =>
    intro listed a w _ hr hy H
    refine ⟨H.1, fun h => (by rw [h] at hr; cases hr), fun j hj => ?_⟩
    by_cases hji : j = i
    · subst hji; exact hy.wpOp hi H.1 H
    · have := ready_mono hj hji
      rw [H.2.1] at this
      cases this
  | succ fuel ih =>
    intro listed a w hfree hr hy H
    refine ⟨H.1, fun h => (by rw [h] at hr; cases hr), fun j hj => ?_⟩
    by_cases hji : j = i
    · subst hji; exact hy.wpOp hi H.1 H
    · have h1 := H.2.2 j (ready_mono hj hji)
      obtain ⟨hjun, oj, hoj, hall⟩ := mem_ready.1 hj
      have hnot : ∀ e ∈ oj.after, Region.binds md e = true → e.on ≠ i := fun e he hb heq => by
        have h1 := hall e he hb
        have h0 := (mem_ready.1 hr).1
        rw [heq] at h1
        rcases Nat.lt_or_ge i listed.size with h' | h'
        · simp [h'] at h0 h1; rw [h0] at h1; cases h1
        · simp [Array.getElem?_eq_none h'] at h1
      have h2 := wpOp_stays hoj (hfree j oj hoj hji hjun hnot) (fun cs b => hsel i oi cs b hi) (fun cs b => hsel j oj cs b hoj) hQ hy h1
      have hfree' : ∀ k ok, ops[k]? = some ok → k ≠ i → (listed.setIfInBounds j true).getD k true = false →
          (∀ e ∈ ok.after, Region.binds md e = true → e.on ≠ i) → oi.apart ops ok = true := fun k ok hk hki hun hno => by
        refine hfree k ok hk hki ?_ hno
        by_cases hjk : j = k
        · subst hjk; exact hjun
        · rw [getD_set_ne true hjk] at hun; exact hun
      refine wpOp_mono (fun a' w' h3 => ih (listed.setIfInBounds j true) a' w' hfree' (ready_mono hr (Ne.symm hji)) h3.1 ?_) h2
      rw [Array.setIfInBounds_comm _ _ hji]
      exact h3.2

/-- The order that is named: a reading operation as soon as it may come up, another one when nothing else may. -/
def mixFrom (md : Region.Mode) (ops : Array Oper) : List Nat → Array Bool → Bool
  | [], listed => (Region.ready md ops listed).isEmpty
  | i :: l, listed => (match ops[i]? with
      | none => false
      | some o => if plainB o.op then (Region.ready md ops listed).contains i && Region.free md ops listed i else Region.ready md ops listed == [i]) && mixFrom md ops l (listed.setIfInBounds i true)
def mixB (md : Region.Mode) (ops : Array Oper) (π : List Nat) : Bool := Region.noSelect ops && π.length == ops.size && mixFrom md ops π (Array.replicate ops.size false)

/-- The walk in that order. -/
def wpMix (P : Program) (ops : Array Oper) (C : World → Prop) (Q : Exit → Act → World → Prop) : List Oper → Act → World → Prop
  | [], a, w => Q .normal a w
  | o :: rest, a, w =>
    if Region.wanted o (yielded ops a.tmps) then
      if plainB o.op then ∃ v, (∀ w, C w → o.quietAt P a C w v) ∧ wpMix P ops C Q rest (a.put o.dst v) w
      else o.wp P a w (fun a' w' => C w' ∧ wpMix P ops C Q rest a' w') Q ∨ (o.asks P a w ∧ LetsOut Q)
    else wpMix P ops C Q rest (a.put o.dst undef) w

theorem anyC_of_mix {Q : Exit → Act → World → Prop} (hs : Region.noSelect ops = true) (hQ : ∀ c a d v w, Q (.panic c) (a.put d v) w → Q (.panic c) a w) : ∀ (π : List Nat) (l : List Oper) (listed : Array Bool) (a : Act) (w : World), π.map (ops[·]?) = l.map some →
    mixFrom md ops π listed = true → C w → wpMix P ops C Q l a w → anyC P md ops C Q π.length listed a w
  | [], [], listed, a, w, _, hB, hC, h => ⟨hC, by simpa [mixFrom] using hB, h⟩
  | [], _ :: _, _, _, _, hl, _, _, _ => by simp at hl
  | _ :: _, [], _, _, _, hl, _, _, _ => by simp at hl
  | i :: π, o :: l, listed, a, w, hl, hB, hC, h => by
    simp only [List.map_cons, List.cons.injEq] at hl
    obtain ⟨h0, hl⟩ := hl
    simp only [mixFrom, h0, Bool.and_eq_true] at hB
    obtain ⟨hB0, hB'⟩ := hB
    rw [List.length_cons]
    by_cases hp : plainB o.op = true
    · simp only [hp, if_true, Bool.and_eq_true] at hB0
      obtain ⟨hr, hf⟩ := hB0
      have key : ∃ v, Stays P ops C o v a ∧ wpMix P ops C Q l (a.put o.dst v) w := by
        rw [wpMix] at h
        by_cases hw : Region.wanted o (yielded ops a.tmps) = true
        · simp only [hw, hp, if_true] at h
          obtain ⟨v, hv, hK⟩ := h
          exact ⟨v, .inl ⟨hw, fun w' hw' => plain_stays hp (hv w' hw')⟩, hK⟩
        · simp only [hw] at h
          exact ⟨undef, .inr ⟨by simpa using hw, rfl⟩, h⟩
      obtain ⟨v, hy, hK⟩ := key
      exact anyC_first h0 (Region.noSelect_spec hs) hQ π.length listed a w (Region.free_spec h0 hf) (by simpa using hr) hy
        (anyC_of_mix hs hQ π l _ _ _ hl hB' hC hK)
    · simp only [hp] at hB0
      have hr : Region.ready md ops listed = [i] := by simpa using hB0
      refine ⟨hC, fun h' => (by rw [hr] at h'; cases h'), fun j hj => ?_⟩
      rw [hr] at hj
      obtain rfl := List.mem_singleton.1 hj
      rw [wpMix] at h
      unfold wpOp
      simp only [h0]
      by_cases hw : Region.wanted o (yielded ops a.tmps) = true
      · simp only [hw, hp, if_true] at h ⊢
        rcases h with h | h
        · exact .inl (Oper.wp_mono (fun a' w' ⟨hc, hk⟩ => anyC_of_mix hs hQ π l _ _ _ hl hB' hc hk) h)
        · exact .inr h
      · simp only [hw] at h ⊢
        exact anyC_of_mix hs hQ π l _ _ _ hl hB' hC h

/-- The operations in that order. -/
def pick (l : List Oper) (π : List Nat) : List Oper := π.map fun i => l.getD i ⟨none, .move (.tmp 0), 0, "", #[], none⟩
theorem pick_spec {l : List Oper} : ∀ {π : List Nat}, (π.all fun i => decide (i < l.length)) = true → π.map (l.toArray[·]?) = (pick l π).map some
  | [], _ => rfl
  | i :: π, h => by
    simp only [List.all_cons, Bool.and_eq_true, decide_eq_true_eq] at h
    have := pick_spec (π := π) (l := l) h.2
    unfold pick at *
    rw [List.map_cons, List.map_cons, List.map_cons, this]
    simp [h.1]

/-- The law. -/
theorem wp_region_mixed {id : Nat} {Q : Exit → Act → World → Prop} {a : Act} {w : World} {l : List Oper} (π : List Nat) (R : World → Prop) (hm : P.follows .mixedOrders = true) (hB : (mixB .any l.toArray π && π.all fun i => decide (i < l.length)) = true)
    (hQ : ∀ c a d v w, Q (.panic c) (a.put d v) w → Q (.panic c) a w) (hC : R w.drew) (h : Nonempty (In R) → wpMix P l.toArray (fun w' => ∃ p : In R, w' = p.w) Q (pick l π) a w.drew) : (Code.region id l.toArray true).wp P Q a w := by
  simp only [mixB, Bool.and_eq_true, beq_iff_eq] at hB
  refine wp_region_any hm ?_
  have := any_of_anyC _ _ _ _ (anyC_of_mix hB.1.1.1 hQ π (pick l π) _ _ _ (pick_spec hB.2) hB.1.2 ⟨⟨_, hC⟩, rfl⟩ (h ⟨⟨_, hC⟩⟩))
  rwa [hB.1.1.2] at this

theorem wpMix_nil {Q : Exit → Act → World → Prop} {a : Act} {w : World} (h : Q .normal a w) : wpMix P ops C Q [] a w := h
/-- The next n operations read. -/
theorem wpMix_quiet {Q : Exit → Act → World → Prop} {w : World} : ∀ (l rest : List Oper) (a : Act), (l.all fun o => plainB o.op) = true → wpQuiet P ops C (fun a' => wpMix P ops C Q rest a' w) l a → wpMix P ops C Q (l ++ rest) a w
  | [], _, _, _, h => h
  | o :: l, rest, a, hp, h => by
    simp only [List.all_cons, Bool.and_eq_true] at hp
    rw [List.cons_append, wpMix]
    rw [wpQuiet] at h
    split
    · rename_i hw
      simp only [hw, hp.1, if_true] at h ⊢
      obtain ⟨v, hv, hK⟩ := h
      exact ⟨v, hv, wpMix_quiet l rest _ hp.2 hK⟩
    · rename_i hw
      simp only [hw] at h
      exact wpMix_quiet l rest _ hp.2 h
theorem wpMix_reads {Q : Exit → Act → World → Prop} {w : World} {a : Act} (n : Nat) (l : List Oper) (hp : ((l.take n).all fun o => plainB o.op) = true) (h : wpQuiet P ops C (fun a' => wpMix P ops C Q (l.drop n) a' w) (l.take n) a) : wpMix P ops C Q l a w := by
  have := wpMix_quiet (P := P) (ops := ops) (C := C) (Q := Q) (w := w) (l.take n) (l.drop n) a hp h
  rwa [List.take_append_drop] at this
/-- The next operation is passed over. -/
theorem wpMix_skip {Q : Exit → Act → World → Prop} {w : World} {a : Act} {o : Oper} {rest : List Oper} (hw : Region.wanted o (yielded ops a.tmps) = false) (h : wpMix P ops C Q rest (a.put o.dst undef) w) : wpMix P ops C Q (o :: rest) a w := by
  rw [wpMix, hw]
  exact h
/-- What is asked behind a call. -/
def mixQ (C : World → Prop) (Q : Exit → Act → World → Prop) (N : Act → World → Prop) (e : Exit) (a : Act) (w : World) : Prop :=
  match e with
  | .normal => C w ∧ N a w
  | e => Q e a w
/-- The next operation acts. -/
theorem wpMix_act {Q : Exit → Act → World → Prop} {w : World} {a : Act} {o : Oper} {rest : List Oper} (hp : plainB o.op = false) (h : wpList P ops (mixQ C Q (wpMix P ops C Q rest)) [o] a w)
    (hskip : Region.wanted o (yielded ops a.tmps) = true) : wpMix P ops C Q (o :: rest) a w := by
  have hL : LetsOut (mixQ C Q (wpMix P ops C Q rest)) → LetsOut Q := fun ⟨a, w, h⟩ => ⟨a, w, h⟩
  rw [wpMix]
  rw [wpList] at h
  simp only [hskip, hp, if_true] at h ⊢
  rcases h with h | ⟨h1, h2⟩
  · refine .inl ?_
    unfold Oper.wp at *
    generalize (execOp a.eval o).run P w = r at *
    cases r with
    | ok n w' =>
      cases n <;> simp only [Oper.upon] at h ⊢
      case value u => exact h
      case skip => exact h
      case defer d => exact h
      case enter f args =>
        refine Calls.mono h fun e w'' he => ?_
        cases e with
        | returned u => exact he
        | panicked c => exact he
        | outgrown => exact hL he
      case row row args => exact h
    | halt x w' =>
      cases x <;> simp only [Oper.upon] at h ⊢
      case panic u => exact h
  · exact .inr ⟨h1, hL h2⟩
end
end Go.Proofs.Ytmkljmljbbijeaa

/-! XMixed's law where the last operation waits for all others: behind it the class is not asked. -/
namespace Go.Proofs.Ytmkljmljbbijeaa
open Go

section
variable {P : Program} {ops : Array Oper} {md : Region.Mode} {C : World → Prop}

/-- Whatever order is picked among the operations ahead of number n. -/
def anyT (P : Program) (md : Region.Mode) (ops : Array Oper) (C : World → Prop) (Q : Exit → Act → World → Prop) (n : Nat) (L : Array Bool → Act → World → Prop) : Nat → Array Bool → Act → World → Prop
  | 0, listed, a, w => C w ∧ L listed a w
  | fuel + 1, listed, a, w => C w ∧ Region.ready md ops listed ≠ [] ∧
    ∀ i ∈ Region.ready md ops listed, i < n ∧ wpOp P ops Q i (anyT P md ops C Q n L fuel (listed.setIfInBounds i true)) a w
theorem any_of_anyT {Q : Exit → Act → World → Prop} {n g : Nat} {L : Array Bool → Act → World → Prop} (hL : ∀ listed a w, L listed a w → wpAny P md ops Q g listed a w) :
    ∀ (f : Nat) (listed : Array Bool) (a : Act) (w : World), anyT P md ops C Q n L f listed a w → wpAny P md ops Q (f + g) listed a w
  | 0, _, _, _, h => by rw [Nat.zero_add]; exact hL _ _ _ h.2
  | f + 1, _, _, _, h => by
    rw [show f + 1 + g = (f + g) + 1 by omega]
    exact ⟨fun h0 => absurd h0 h.2.1, fun i hi => wpOp_mono (fun a' w' h' => any_of_anyT hL f _ a' w' h') (h.2.2 i hi).2⟩

theorem anyT_in {Q : Exit → Act → World → Prop} {n : Nat} {L : Array Bool → Act → World → Prop} : ∀ {f : Nat} {listed : Array Bool} {a : Act} {w : World}, anyT P md ops C Q n L f listed a w → C w
  | 0, _, _, _, h => h.1
  | _ + 1, _, _, _, h => h.1

theorem anyT_first {Q : Exit → Act → World → Prop} {n i : Nat} {oi : Oper} {v : Value} {L : Array Bool → Act → World → Prop} (hi : ops[i]? = some oi) (hsel : ∀ (j : Nat) (o : Oper) cs b, ops[j]? = some o → o.op ≠ .select cs b)
    (hQ : ∀ c a d v w, Q (.panic c) (a.put d v) w → Q (.panic c) a w)
    (hs : Region.sinkB md ops n = true) (hc : Region.chainB md ops n = true) (hn : n < ops.size) (hin : i < n) (hdone : ∀ listed a w, L listed a w → ∀ j ∈ Region.ready md ops listed, n ≤ j) :
    ∀ (f : Nat) (listed : Array Bool) (a : Act) (w : World), HeadInv md ops n listed →
      (∀ j oj, ops[j]? = some oj → j ≠ i → listed.getD j true = false → (∀ e ∈ oj.after, Region.binds md e = true → e.on ≠ i) → oi.apart ops oj = true) →
      i ∈ Region.ready md ops listed → Stays P ops C oi v a →
      anyT P md ops C Q n L f (listed.setIfInBounds i true) (a.put oi.dst v) w → anyT P md ops C Q n L (f + 1) listed a w := by
  intro f
  induction f with
  | zero =>
    intro listed a w inv _ hr hy H
    have hun := (mem_ready.1 hr).1
    refine ⟨H.1, fun h => (by rw [h] at hr; cases hr), fun j hj => ?_⟩
    have hjn : j < n := (Nat.lt_or_ge j n).elim id fun h => absurd hj (tail_waits hs hc hn inv _ i rfl hin hun j h)
    refine ⟨hjn, ?_⟩
    by_cases hji : j = i
    · subst hji; exact hy.wpOp hi H.1 H
    · have := hdone _ _ _ H.2 j (ready_mono hj hji)
      omega
  | succ f ih =>
    intro listed a w inv hfree hr hy H
    have hun := (mem_ready.1 hr).1
    refine ⟨H.1, fun h => (by rw [h] at hr; cases hr), fun j hj => ?_⟩
    have hjn : j < n := (Nat.lt_or_ge j n).elim id fun h => absurd hj (tail_waits hs hc hn inv _ i rfl hin hun j h)
    refine ⟨hjn, ?_⟩
    by_cases hji : j = i
    · subst hji; exact hy.wpOp hi H.1 H
    · have h1 := (H.2.2 j (ready_mono hj hji)).2
      obtain ⟨hjun, oj, hoj, hall⟩ := mem_ready.1 hj
      have hnot : ∀ e ∈ oj.after, Region.binds md e = true → e.on ≠ i := fun e he hb heq => by
        have h1 := hall e he hb
        rw [heq, getD_both hun] at h1
        cases h1
      have h2 := wpOp_stays hoj (hfree j oj hoj hji hjun hnot) (fun cs b => hsel i oi cs b hi) (fun cs b => hsel j oj cs b hoj) hQ hy h1
      refine wpOp_mono (fun a' w' h3 => ih (listed.setIfInBounds j true) a' w' (inv.set hj hjn) (fun k ok hk hki hun' hno => ?_) (ready_mono hr (Ne.symm hji)) h3.1 ?_) h2
      · refine hfree k ok hk hki ?_ hno
        by_cases hjk : j = k
        · subst hjk; exact hjun
        · rw [getD_set_ne true hjk] at hun'; exact hun'
      · rw [Array.setIfInBounds_comm _ _ hji]
        exact h3.2

def headFrom (md : Region.Mode) (ops : Array Oper) (n : Nat) : List Nat → Array Bool → Bool
  | [], listed => Region.seqB md ops 1 n listed
  | i :: l, listed => decide (i < n) && (match ops[i]? with
      | none => false
      | some o => if plainB o.op then (Region.ready md ops listed).contains i && Region.free md ops listed i else Region.ready md ops listed == [i]) && headFrom md ops n l (listed.setIfInBounds i true)
def mixTB (md : Region.Mode) (l : List Oper) (π : List Nat) (n : Nat) : Bool :=
  Region.noSelect l.toArray && decide (n + 1 = l.length) && (π.length == n) && Region.sinkB md l.toArray n && Region.chainB md l.toArray n && (π.all fun i => decide (i < l.length)) && headFrom md l.toArray n π (Array.replicate l.length false)

/-- What is asked behind the head. -/
def tailQ (P : Program) (ops : Array Oper) (Q : Exit → Act → World → Prop) (tail : List Oper) (e : Exit) (a : Act) (w : World) : Prop :=
  match e with
  | .normal => wpList P ops Q tail a w
  | e => Q e a w

theorem anyT_of_mix {Q : Exit → Act → World → Prop} {n : Nat} {tail : List Oper} (hs : Region.noSelect ops = true) (hsk : Region.sinkB md ops n = true) (hch : Region.chainB md ops n = true) (hn : n < ops.size) (hQ : ∀ c a d v w, Q (.panic c) (a.put d v) w → Q (.panic c) a w) :
    ∀ (π : List Nat) (l : List Oper) (listed : Array Bool) (a : Act) (w : World), π.map (ops[·]?) = l.map some → HeadInv md ops n listed →
    headFrom md ops n π listed = true → C w → wpMix P ops C (tailQ P ops Q tail) l a w → anyT P md ops C Q n (fun listed a w => Region.seqB md ops 1 n listed = true ∧ wpList P ops Q tail a w) π.length listed a w
  | [], [], listed, a, w, _, _, hB, hC, h => ⟨hC, by simpa [headFrom] using hB, h⟩
  | [], _ :: _, _, _, _, hl, _, _, _, _ => by simp at hl
  | _ :: _, [], _, _, _, hl, _, _, _, _ => by simp at hl
  | i :: π, o :: l, listed, a, w, hl, inv, hB, hC, h => by
    simp only [List.map_cons, List.cons.injEq] at hl
    obtain ⟨h0, hl⟩ := hl
    simp only [headFrom, h0, Bool.and_eq_true, decide_eq_true_eq] at hB
    obtain ⟨⟨hin, hB0⟩, hB'⟩ := hB
    rw [List.length_cons]
    by_cases hp : plainB o.op = true
    · simp only [hp, if_true, Bool.and_eq_true] at hB0
      obtain ⟨hr, hf⟩ := hB0
      have hr' : i ∈ Region.ready md ops listed := by simpa using hr
      have key : ∃ v, Stays P ops C o v a ∧ wpMix P ops C (tailQ P ops Q tail) l (a.put o.dst v) w := by
        rw [wpMix] at h
        by_cases hw : Region.wanted o (yielded ops a.tmps) = true
        · simp only [hw, hp, if_true] at h
          obtain ⟨v, hv, hK⟩ := h
          exact ⟨v, .inl ⟨hw, fun w' hw' => plain_stays hp (hv w' hw')⟩, hK⟩
        · simp only [hw] at h
          exact ⟨undef, .inr ⟨by simpa using hw, rfl⟩, h⟩
      obtain ⟨v, hy, hK⟩ := key
      exact anyT_first h0 (Region.noSelect_spec hs) hQ hsk hch hn hin (fun listed' a' w' hL => seqB_ready hL.1) π.length listed a w inv (Region.free_spec h0 hf) hr' hy
        (anyT_of_mix hs hsk hch hn hQ π l _ _ _ hl (inv.set hr' hin) hB' hC hK)
    · simp only [hp] at hB0
      have hr : Region.ready md ops listed = [i] := by simpa using hB0
      have hr' : i ∈ Region.ready md ops listed := by rw [hr]; simp
      refine ⟨hC, fun h' => (by rw [hr] at h'; cases h'), fun j hj => ?_⟩
      rw [hr] at hj
      obtain rfl := List.mem_singleton.1 hj
      refine ⟨hin, ?_⟩
      rw [wpMix] at h
      unfold wpOp
      simp only [h0]
      by_cases hw : Region.wanted o (yielded ops a.tmps) = true
      · simp only [hw, hp, if_true] at h ⊢
        rcases h with h | ⟨h, h'⟩
        · refine .inl ?_
          have hL : LetsOut (tailQ P ops Q tail) → LetsOut Q := fun ⟨a, w, h⟩ => ⟨a, w, h⟩
          unfold Oper.wp at *
          generalize (execOp a.eval o).run P w = r at *
          have step : ∀ a' w', (C w' ∧ wpMix P ops C (tailQ P ops Q tail) l a' w') → anyT P md ops C Q n (fun listed a w => Region.seqB md ops 1 n listed = true ∧ wpList P ops Q tail a w) π.length (listed.setIfInBounds j true) a' w' :=
            fun a' w' hh => anyT_of_mix hs hsk hch hn hQ π l _ _ _ hl (inv.set hr' hin) hB' hh.1 hh.2
          cases r with
          | ok nx w' =>
            cases nx <;> simp only [Oper.upon] at h ⊢
            case value u => exact step _ _ h
            case skip => exact step _ _ h
            case defer d => exact step _ _ h
            case enter f args =>
              refine Calls.mono h fun e w'' he => ?_
              cases e with
              | returned u => exact step _ _ he
              | panicked c => exact he
              | outgrown => exact hL he
            case row row args => exact Rows.mono h fun u w'' he => step _ _ he
          | halt x w' =>
            cases x <;> simp only [Oper.upon] at h ⊢
            case panic u => exact h
        · exact .inr ⟨h, (fun ⟨a, w, h⟩ => ⟨a, w, h⟩ : LetsOut (tailQ P ops Q tail) → LetsOut Q) h'⟩
      · simp only [hw] at h ⊢
        exact anyT_of_mix hs hsk hch hn hQ π l _ _ _ hl (inv.set hr' hin) hB' hC h

/-- The law. -/
theorem wp_region_mixed_tail {id : Nat} {Q : Exit → Act → World → Prop} {a : Act} {w : World} {l : List Oper} (π : List Nat) (n : Nat) (R : World → Prop) (hm : P.follows .mixedOrders = true) (hB : mixTB .any l π n = true)
    (hQ : ∀ c a d v w, Q (.panic c) (a.put d v) w → Q (.panic c) a w) (hC : R w.drew) (h : Nonempty (In R) → wpMix P l.toArray (fun w' => ∃ p : In R, w' = p.w) (tailQ P l.toArray Q (l.drop n)) (pick l π) a w.drew) : (Code.region id l.toArray true).wp P Q a w := by
  simp only [mixTB, Bool.and_eq_true, beq_iff_eq, decide_eq_true_eq] at hB
  obtain ⟨⟨⟨⟨⟨⟨hsel, hn⟩, hpl⟩, hs⟩, hc⟩, hall⟩, hh⟩ := hB
  have hsz : l.toArray.size = l.length := by simp
  have inv0 : HeadInv .any l.toArray n (Array.replicate l.length false) :=
    ⟨by simp, fun j oj _ hl => (by rw [getD_replicate_false] at hl; cases hl), fun t _ ht => getD_in (by simpa using ht) (getD_replicate_false _ _)⟩
  refine wp_region_any hm ?_
  have := any_of_anyT (g := 1) (fun listed' a' w' hL => by
    have hdl : (l.drop n).length = 1 := by simp; omega
    have := wpAny_of_seq (md := .any) (Q' := Q) (l.drop n) n listed' a' w' (fun j => by simp [List.getElem?_drop]) (by rw [hdl]; exact hL.1) hL.2
    rwa [hdl] at this) _ _ _ _ (anyT_of_mix hsel hs hc (by omega) hQ π (pick l π) _ _ _ (pick_spec hall) inv0 hh ⟨⟨_, hC⟩, rfl⟩ (h ⟨⟨_, hC⟩⟩))
  rw [hpl] at this
  rw [hsz, ← hn]
  rw [← hn] at this
  exact this
end
end Go.Proofs.Ytmkljmljbbijeaa

/-! XMixed's law once more, with calls among the reading operations: calls that hand the world back as it was, in every world of the class. -/
namespace Go.Proofs.Ytmkljmljbbijeaa
open Go

section
variable {P : Program} {ops : Array Oper} {md : Region.Mode} {C : World → Prop}

/-- In this world the operation leaves v in its temporary and the world as it is. -/
def StaysAt (P : Program) (a : Act) (o : Oper) (v : Value) (w : World) : Prop :=
  (execOp a.eval o).run P w = .ok (.value v) w ∨ ((execOp a.eval o).run P w = .ok .skip w ∧ v = undef) ∨
    ∃ f args, (execOp a.eval o).run P w = .ok (.enter f args) w ∧ Calls P f args w fun e w' => e = .returned v ∧ w = w'
def StaysC (P : Program) (ops : Array Oper) (C : World → Prop) (o : Oper) (v : Value) (a : Act) : Prop :=
  (Region.wanted o (yielded ops a.tmps) = true ∧ ∀ w, C w → StaysAt P a o v w) ∨ (Region.wanted o (yielded ops a.tmps) = false ∧ v = undef)
theorem StaysC.wpOp {i : Nat} {o : Oper} {v : Value} {a : Act} {Q : Exit → Act → World → Prop} (hi : ops[i]? = some o) (hy : StaysC P ops C o v a) {K : Act → World → Prop} {w : World} (hw : C w) (h : K (a.put o.dst v) w) : wpOp P ops Q i K a w := by
  unfold Go.wpOp
  simp only [hi]
  rcases hy with ⟨hwt, hv⟩ | ⟨hwt, rfl⟩
  · simp only [hwt, if_true]
    refine .inl ?_
    unfold Oper.wp
    rcases hv w hw with e | ⟨e, rfl⟩ | ⟨f, args, e, hc⟩
    · rw [e]; exact h
    · rw [e]; exact h
    · rw [e]
      refine Calls.mono hc fun e w'' ⟨he, hw'⟩ => ?_
      subst he hw'
      exact h
  · simp only [hwt, Bool.false_eq_true, if_false]; exact h
theorem StaysC.of_same {o : Oper} {v : Value} {a a' : Act} (hy : StaysC P ops C o v a) (he : execOp a'.eval o = execOp a.eval o)
    (hw : Region.wanted o (yielded ops a'.tmps) = Region.wanted o (yielded ops a.tmps)) : StaysC P ops C o v a' := by
  unfold StaysC StaysAt at *
  rw [he, hw]
  exact hy
theorem wpOp_staysC {j : Nat} {oi oj : Oper} {v : Value} {Q : Exit → Act → World → Prop} (hj : ops[j]? = some oj) (hap : oi.apart ops oj = true)
    (hsi : ∀ cs b, oi.op ≠ .select cs b) (hsj : ∀ cs b, oj.op ≠ .select cs b)
    (hQ : ∀ c a d v w, Q (.panic c) (a.put d v) w → Q (.panic c) a w) {K : Act → World → Prop} {a : Act} {w : World}
    (hy : StaysC P ops C oi v a) (h : wpOp P ops Q j K (a.put oi.dst v) w) :
    wpOp P ops Q j (fun a' w' => StaysC P ops C oi v a' ∧ K (a'.put oi.dst v) w') a w := by
  obtain ⟨h1, h2, h3⟩ := Oper.apart_spec hap
  have keep : ∀ (a : Act), StaysC P ops C oi v a → ∀ u, StaysC P ops C oi v (a.put oj.dst u) := fun a hy u =>
    hy.of_same (execOp_put oi hsi a oj.dst u h3) (wanted_put oi a oj.dst u h3)
  have keepD : ∀ d, StaysC P ops C oi v { a with defers := d :: a.defers } := fun d => hy.of_same rfl rfl
  unfold wpOp at *
  simp only [hj] at *
  rw [wanted_put oj a oi.dst v h1] at h
  split
  · rename_i hw
    simp only [hw, if_true] at h
    rcases h with h | ⟨hasks, hlets⟩
    case inr => exact .inr ⟨by unfold Oper.asks at *; rw [execOp_put oj hsj a oi.dst v h1] at hasks; exact hasks, hlets⟩
    refine .inl ?_
    unfold Oper.wp at *
    rw [execOp_put oj hsj a oi.dst v h1] at h
    generalize (execOp a.eval oj).run P w = r at *
    cases r with
    | ok n w' =>
      cases n <;> simp only [Oper.upon] at h ⊢
      case value u => exact ⟨keep a hy u, by rw [← Act.put_comm a v u h2]; exact h⟩
      case skip => exact ⟨keep a hy _, by rw [← Act.put_comm a v undef h2]; exact h⟩
      case defer d =>
        refine ⟨keep _ (keepD d) _, ?_⟩
        rw [← Act.put_comm _ v undef h2, ← Act.put_defers]
        exact h
      case enter f args =>
        refine Calls.mono h fun e w'' he => ?_
        cases e with
        | returned u => exact ⟨keep a hy u, by rw [← Act.put_comm a v u h2]; exact he⟩
        | panicked c => exact hQ _ _ _ _ _ he
        | outgrown => exact he
      case row row args => exact Rows.mono h fun u w'' he => ⟨keep a hy u, by rw [← Act.put_comm a v u h2]; exact he⟩
    | halt x w' =>
      cases x <;> simp only [Oper.upon] at h ⊢
      case panic u => exact hQ _ _ _ _ _ h
  · rename_i hw
    simp only [hw] at h
    exact ⟨keep a hy _, by rw [← Act.put_comm a v undef h2]; exact h⟩

theorem anyC_firstC {Q : Exit → Act → World → Prop} {i : Nat} {oi : Oper} {v : Value} (hi : ops[i]? = some oi) (hsel : ∀ (j : Nat) (o : Oper) cs b, ops[j]? = some o → o.op ≠ .select cs b)
    (hQ : ∀ c a d v w, Q (.panic c) (a.put d v) w → Q (.panic c) a w) :
    ∀ (fuel : Nat) (listed : Array Bool) (a : Act) (w : World),
      (∀ j oj, ops[j]? = some oj → j ≠ i → listed.getD j true = false → (∀ e ∈ oj.after, Region.binds md e = true → e.on ≠ i) → oi.apart ops oj = true) →
      i ∈ Region.ready md ops listed → StaysC P ops C oi v a →
      anyC P md ops C Q fuel (listed.setIfInBounds i true) (a.put oi.dst v) w → anyC P md ops C Q (fuel + 1) listed a w := by
  intro fuel
  induction fuel with
  | zero =>
    intro listed a w _ hr hy H
    refine ⟨H.1, fun h => (by rw [h] at hr; cases hr), fun j hj => ?_⟩
    by_cases hji : j = i
    · subst hji; exact hy.wpOp hi H.1 H
    · have := ready_mono hj hji
      rw [H.2.1] at this
      cases this
  | succ fuel ih =>
    intro listed a w hfree hr hy H
    refine ⟨H.1, fun h => (by rw [h] at hr; cases hr), fun j hj => ?_⟩
    by_cases hji : j = i
    · subst hji; exact hy.wpOp hi H.1 H
    · have h1 := H.2.2 j (ready_mono hj hji)
      obtain ⟨hjun, oj, hoj, hall⟩ := mem_ready.1 hj
      have hnot : ∀ e ∈ oj.after, Region.binds md e = true → e.on ≠ i := fun e he hb heq => by
        have h1 := hall e he hb
        have h0 := (mem_ready.1 hr).1
        rw [heq] at h1
        rcases Nat.lt_or_ge i listed.size with h' | h'
        · simp [h'] at h0 h1; rw [h0] at h1; cases h1
        · simp [Array.getElem?_eq_none h'] at h1
      have h2 := wpOp_staysC hoj (hfree j oj hoj hji hjun hnot) (fun cs b => hsel i oi cs b hi) (fun cs b => hsel j oj cs b hoj) hQ hy h1
      have hfree' : ∀ k ok, ops[k]? = some ok → k ≠ i → (listed.setIfInBounds j true).getD k true = false →
          (∀ e ∈ ok.after, Region.binds md e = true → e.on ≠ i) → oi.apart ops ok = true := fun k ok hk hki hun hno => by
        refine hfree k ok hk hki ?_ hno
        by_cases hjk : j = k
        · subst hjk; exact hjun
        · rw [getD_set_ne true hjk] at hun; exact hun
      refine wpOp_mono (fun a' w' h3 => ih (listed.setIfInBounds j true) a' w' hfree' (ready_mono hr (Ne.symm hji)) h3.1 ?_) h2
      rw [Array.setIfInBounds_comm _ _ hji]
      exact h3.2

/-- A reading operation, or a call among those named by their temporaries. -/
def stillB (S : List Tmp) (o : Oper) : Bool := plainB o.op || match o.dst with
  | some t => S.contains t
  | none => false
def mixFromS (S : List Tmp) (md : Region.Mode) (ops : Array Oper) : List Nat → Array Bool → Bool
  | [], listed => (Region.ready md ops listed).isEmpty
  | i :: l, listed => (match ops[i]? with
      | none => false
      | some o => if stillB S o then (Region.ready md ops listed).contains i && Region.free md ops listed i else Region.ready md ops listed == [i]) && mixFromS S md ops l (listed.setIfInBounds i true)
def mixSB (S : List Tmp) (md : Region.Mode) (ops : Array Oper) (π : List Nat) : Bool := Region.noSelect ops && π.length == ops.size && mixFromS S md ops π (Array.replicate ops.size false)
def wpMixS (S : List Tmp) (P : Program) (ops : Array Oper) (C : World → Prop) (Q : Exit → Act → World → Prop) : List Oper → Act → World → Prop
  | [], a, w => Q .normal a w
  | o :: rest, a, w =>
    if Region.wanted o (yielded ops a.tmps) then
      if stillB S o then ∃ v, (∀ w, C w → StaysAt P a o v w) ∧ wpMixS S P ops C Q rest (a.put o.dst v) w
      else o.wp P a w (fun a' w' => C w' ∧ wpMixS S P ops C Q rest a' w') Q ∨ (o.asks P a w ∧ LetsOut Q)
    else wpMixS S P ops C Q rest (a.put o.dst undef) w

theorem anyC_of_mixS {S : List Tmp} {Q : Exit → Act → World → Prop} (hs : Region.noSelect ops = true) (hQ : ∀ c a d v w, Q (.panic c) (a.put d v) w → Q (.panic c) a w) : ∀ (π : List Nat) (l : List Oper) (listed : Array Bool) (a : Act) (w : World), π.map (ops[·]?) = l.map some →
    mixFromS S md ops π listed = true → C w → wpMixS S P ops C Q l a w → anyC P md ops C Q π.length listed a w
  | [], [], listed, a, w, _, hB, hC, h => ⟨hC, by simpa [mixFromS] using hB, h⟩
  | [], _ :: _, _, _, _, hl, _, _, _ => by simp at hl
  | _ :: _, [], _, _, _, hl, _, _, _ => by simp at hl
  | i :: π, o :: l, listed, a, w, hl, hB, hC, h => by
    simp only [List.map_cons, List.cons.injEq] at hl
    obtain ⟨h0, hl⟩ := hl
    simp only [mixFromS, h0, Bool.and_eq_true] at hB
    obtain ⟨hB0, hB'⟩ := hB
    rw [List.length_cons]
    by_cases hp : stillB S o = true
    · simp only [hp, if_true, Bool.and_eq_true] at hB0
      obtain ⟨hr, hf⟩ := hB0
      have key : ∃ v, StaysC P ops C o v a ∧ wpMixS S P ops C Q l (a.put o.dst v) w := by
        rw [wpMixS] at h
        by_cases hw : Region.wanted o (yielded ops a.tmps) = true
        · simp only [hw, hp, if_true] at h
          obtain ⟨v, hv, hK⟩ := h
          exact ⟨v, .inl ⟨hw, hv⟩, hK⟩
        · simp only [hw] at h
          exact ⟨undef, .inr ⟨by simpa using hw, rfl⟩, h⟩
      obtain ⟨v, hy, hK⟩ := key
      exact anyC_firstC h0 (Region.noSelect_spec hs) hQ π.length listed a w (Region.free_spec h0 hf) (by simpa using hr) hy
        (anyC_of_mixS hs hQ π l _ _ _ hl hB' hC hK)
    · simp only [hp] at hB0
      have hr : Region.ready md ops listed = [i] := by simpa using hB0
      refine ⟨hC, fun h' => (by rw [hr] at h'; cases h'), fun j hj => ?_⟩
      rw [hr] at hj
      obtain rfl := List.mem_singleton.1 hj
      rw [wpMixS] at h
      unfold wpOp
      simp only [h0]
      by_cases hw : Region.wanted o (yielded ops a.tmps) = true
      · simp only [hw, hp, if_true] at h ⊢
        rcases h with h | h
        · exact .inl (Oper.wp_mono (fun a' w' ⟨hc, hk⟩ => anyC_of_mixS hs hQ π l _ _ _ hl hB' hc hk) h)
        · exact .inr h
      · simp only [hw] at h ⊢
        exact anyC_of_mixS hs hQ π l _ _ _ hl hB' hC h

/-- The law. -/
theorem wp_region_mixed_still {id : Nat} {Q : Exit → Act → World → Prop} {a : Act} {w : World} {l : List Oper} (S : List Tmp) (π : List Nat) (R : World → Prop) (hm : P.follows .mixedOrders = true) (hB : (mixSB S .any l.toArray π && π.all fun i => decide (i < l.length)) = true)
    (hQ : ∀ c a d v w, Q (.panic c) (a.put d v) w → Q (.panic c) a w) (hC : R w.drew) (h : Nonempty (In R) → wpMixS S P l.toArray (fun w' => ∃ p : In R, w' = p.w) Q (pick l π) a w.drew) : (Code.region id l.toArray true).wp P Q a w := by
  simp only [mixSB, Bool.and_eq_true, beq_iff_eq] at hB
  refine wp_region_any hm ?_
  have := any_of_anyC _ _ _ _ (anyC_of_mixS hB.1.1.1 hQ π (pick l π) _ _ _ (pick_spec hB.2) hB.1.2 ⟨⟨_, hC⟩, rfl⟩ (h ⟨⟨_, hC⟩⟩))
  rwa [hB.1.1.2] at this

theorem wpMixS_nil {S : List Tmp} {Q : Exit → Act → World → Prop} {a : Act} {w : World} (h : Q .normal a w) : wpMixS S P ops C Q [] a w := h
/-- The next n operations read. -/
theorem wpMixS_quiet {S : List Tmp} {Q : Exit → Act → World → Prop} {w : World} : ∀ (l rest : List Oper) (a : Act), (l.all fun o => plainB o.op) = true → wpQuiet P ops C (fun a' => wpMixS S P ops C Q rest a' w) l a → wpMixS S P ops C Q (l ++ rest) a w
  | [], _, _, _, h => h
  | o :: l, rest, a, hp, h => by
    simp only [List.all_cons, Bool.and_eq_true] at hp
    rw [List.cons_append, wpMixS]
    rw [wpQuiet] at h
    have hst : stillB S o = true := by unfold stillB; rw [hp.1]; rfl
    split
    · rename_i hw
      simp only [hw, if_true] at h
      obtain ⟨v, hv, hK⟩ := h
      exact ⟨v, fun w' hw' => (plain_stays hp.1 (hv w' hw')).elim .inl (fun h => .inr (.inl h)), wpMixS_quiet l rest _ hp.2 hK⟩
    · rename_i hw
      simp only [hw] at h
      exact wpMixS_quiet l rest _ hp.2 h
theorem wpMixS_reads {S : List Tmp} {Q : Exit → Act → World → Prop} {w : World} {a : Act} (n : Nat) (l : List Oper) (hp : ((l.take n).all fun o => plainB o.op) = true) (h : wpQuiet P ops C (fun a' => wpMixS S P ops C Q (l.drop n) a' w) (l.take n) a) : wpMixS S P ops C Q l a w := by
  have := wpMixS_quiet (P := P) (ops := ops) (C := C) (S := S) (Q := Q) (w := w) (l.take n) (l.drop n) a hp h
  rwa [List.take_append_drop] at this
/-- The next operation is a call that hands the world back. -/
theorem wpMixS_call {S : List Tmp} {Q : Exit → Act → World → Prop} {w : World} {a : Act} {o : Oper} {rest : List Oper} (hst : stillB S o = true) (hw : Region.wanted o (yielded ops a.tmps) = true) (v : Value) (f : FuncId) (args : Array Value)
    (he : ∀ w, (execOp a.eval o).run P w = .ok (.enter f args) w) (hc : ∀ w, C w → Calls P f args w fun e w' => e = .returned v ∧ w = w') (h : wpMixS S P ops C Q rest (a.put o.dst v) w) : wpMixS S P ops C Q (o :: rest) a w := by
  rw [wpMixS, if_pos hw, if_pos hst]
  exact ⟨v, fun w' hw' => .inr (.inr ⟨f, args, he w', hc w' hw'⟩), h⟩
/-- The next operation makes a value and touches nothing. -/
theorem wpMixS_value {S : List Tmp} {Q : Exit → Act → World → Prop} {w : World} {a : Act} {o : Oper} {rest : List Oper} (hst : stillB S o = true) (hw : Region.wanted o (yielded ops a.tmps) = true) (v : Value)
    (he : ∀ w, (execOp a.eval o).run P w = .ok (.value v) w) (h : wpMixS S P ops C Q rest (a.put o.dst v) w) : wpMixS S P ops C Q (o :: rest) a w := by
  rw [wpMixS, if_pos hw, if_pos hst]
  exact ⟨v, fun w' _ => .inl (he w'), h⟩
/-- The next operation acts. -/
theorem wpMixS_act {S : List Tmp} {Q : Exit → Act → World → Prop} {w : World} {a : Act} {o : Oper} {rest : List Oper} (hp : stillB S o = false) (h : wpList P ops (mixQ C Q (wpMixS S P ops C Q rest)) [o] a w)
    (hskip : Region.wanted o (yielded ops a.tmps) = true) : wpMixS S P ops C Q (o :: rest) a w := by
  have hL : LetsOut (mixQ C Q (wpMixS S P ops C Q rest)) → LetsOut Q := fun ⟨a, w, h⟩ => ⟨a, w, h⟩
  rw [wpMixS]
  rw [wpList] at h
  simp only [hskip, hp, if_true] at h ⊢
  rcases h with h | ⟨h1, h2⟩
  · refine .inl ?_
    unfold Oper.wp at *
    generalize (execOp a.eval o).run P w = r at *
    cases r with
    | ok n w' =>
      cases n <;> simp only [Oper.upon] at h ⊢
      case value u => exact h
      case skip => exact h
      case defer d => exact h
      case enter f args =>
        refine Calls.mono h fun e w'' he => ?_
        cases e with
        | returned u => exact he
        | panicked c => exact he
        | outgrown => exact hL he
      case row row args => exact h
    | halt x w' =>
      cases x <;> simp only [Oper.upon] at h ⊢
      case panic u => exact h
  · exact .inr ⟨h1, hL h2⟩
end
end Go.Proofs.Ytmkljmljbbijeaa

/-! XMixed's law where, behind some reads, either of two acting operations may come up first: each order is walked. -/
namespace Go.Proofs.Ytmkljmljbbijeaa
open Go

section
variable {P : Program} {ops : Array Oper} {md : Region.Mode} {C : World → Prop}

theorem wpQuiet_imp {Q Q' : Act → Prop} (hq : ∀ a, Q a → Q' a) : ∀ (l : List Oper) (a : Act), wpQuiet P ops C Q l a → wpQuiet P ops C Q' l a
  | [], a, h => hq a h
  | o :: l, a, h => by
    rw [wpQuiet] at h ⊢
    by_cases hw : Region.wanted o (yielded ops a.tmps) = true
    · rw [if_pos hw] at h ⊢
      obtain ⟨v, hv, hK⟩ := h
      exact ⟨v, hv, wpQuiet_imp hq l _ hK⟩
    · rw [if_neg hw] at h ⊢
      exact wpQuiet_imp hq l _ h
/-- What is listed behind some reads, each as soon as it may come up. -/
def readsTo (md : Region.Mode) (ops : Array Oper) : List Nat → Array Bool → Option (Array Bool)
  | [], listed => some listed
  | i :: l, listed => match ops[i]? with
    | none => none
    | some o => if plainB o.op && (Region.ready md ops listed).contains i && Region.free md ops listed i then readsTo md ops l (listed.setIfInBounds i true) else none

theorem anyC_of_reads {Q : Exit → Act → World → Prop} {fuel : Nat} {listed' : Array Bool} {w : World} (hs : Region.noSelect ops = true) (hQ : ∀ c a d v w, Q (.panic c) (a.put d v) w → Q (.panic c) a w) :
    ∀ (π : List Nat) (l : List Oper) (listed : Array Bool) (a : Act), π.map (ops[·]?) = l.map some → readsTo md ops π listed = some listed' → C w →
      wpQuiet P ops C (fun a' => anyC P md ops C Q fuel listed' a' w) l a → anyC P md ops C Q (π.length + fuel) listed a w
  | [], [], listed, a, _, hB, _, h => by
    simp only [readsTo, Option.some.injEq] at hB
    subst hB
    rw [List.length_nil, Nat.zero_add]
    exact h
  | [], _ :: _, _, _, hl, _, _, _ => by simp at hl
  | _ :: _, [], _, _, hl, _, _, _ => by simp at hl
  | i :: π, o :: l, listed, a, hl, hB, hC, h => by
    simp only [List.map_cons, List.cons.injEq] at hl
    obtain ⟨h0, hl⟩ := hl
    simp only [readsTo, h0] at hB
    split at hB
    case isFalse => cases hB
    case isTrue hc =>
      simp only [Bool.and_eq_true] at hc
      obtain ⟨⟨hp, hr⟩, hf⟩ := hc
      rw [show (i :: π).length + fuel = (π.length + fuel) + 1 by rw [List.length_cons]; omega]
      have key : ∃ v, Stays P ops C o v a ∧ wpQuiet P ops C (fun a' => anyC P md ops C Q fuel listed' a' w) l (a.put o.dst v) := by
        rw [wpQuiet] at h
        by_cases hw : Region.wanted o (yielded ops a.tmps) = true
        · simp only [hw, if_true] at h
          obtain ⟨v, hv, hK⟩ := h
          exact ⟨v, .inl ⟨hw, fun w' hw' => plain_stays hp (hv w' hw')⟩, hK⟩
        · simp only [hw] at h
          exact ⟨undef, .inr ⟨by simpa using hw, rfl⟩, h⟩
      obtain ⟨v, hy, hK⟩ := key
      exact anyC_first h0 (Region.noSelect_spec hs) hQ _ listed a w (Region.free_spec h0 hf) (by simpa using hr) hy
        (anyC_of_reads hs hQ π l _ _ hl hB hC hK)

/-- The next operation acts: the walk in an order gives the step. -/
theorem wpOp_of_mix {Q : Exit → Act → World → Prop} (hs : Region.noSelect ops = true) (hQ : ∀ c a d v w, Q (.panic c) (a.put d v) w → Q (.panic c) a w) {i : Nat} {π : List Nat} {o : Oper} {l : List Oper} {listed : Array Bool} {a : Act} {w : World} (h0 : ops[i]? = some o) (hp : plainB o.op = false) (hl : π.map (ops[·]?) = l.map some)
    (hB : mixFrom md ops π (listed.setIfInBounds i true) = true) (hC : C w) (h : wpMix P ops C Q (o :: l) a w) : wpOp P ops Q i (anyC P md ops C Q π.length (listed.setIfInBounds i true)) a w := by
  rw [wpMix] at h
  unfold wpOp
  simp only [h0]
  by_cases hw : Region.wanted o (yielded ops a.tmps) = true
  · simp only [hw, hp, if_true] at h ⊢
    rcases h with h | h
    · exact .inl (Oper.wp_mono (fun a' w' ⟨hc, hk⟩ => anyC_of_mix hs hQ π l _ _ _ hl hB hc hk) h)
    · exact .inr h
  · simp only [hw] at h ⊢
    exact anyC_of_mix hs hQ π l _ _ _ hl hB hC h

def forkB (md : Region.Mode) (l : List Oper) (π0 : List Nat) (i j : Nat) (π1 π2 : List Nat) : Bool :=
  Region.noSelect l.toArray && decide (π0.length + (π1.length + 1) = l.length) && decide (π1.length = π2.length) && (π0.all fun k => decide (k < l.length)) && ((i :: π1).all fun k => decide (k < l.length)) && ((j :: π2).all fun k => decide (k < l.length)) &&
    !plainB (l.getD i ⟨none, .move (.tmp 0), 0, "", #[], none⟩).op && !plainB (l.getD j ⟨none, .move (.tmp 0), 0, "", #[], none⟩).op &&
    match readsTo md l.toArray π0 (Array.replicate l.length false) with
    | none => false
    | some li => Region.ready md l.toArray li == [i, j] && mixFrom md l.toArray π1 (li.setIfInBounds i true) && mixFrom md l.toArray π2 (li.setIfInBounds j true)

/-- The law. -/
theorem wp_region_fork {id : Nat} {Q : Exit → Act → World → Prop} {a : Act} {w : World} {l : List Oper} (π0 : List Nat) (i j : Nat) (π1 π2 : List Nat) (R : World → Prop) (hm : P.follows .mixedOrders = true) (hB : forkB .any l π0 i j π1 π2 = true)
    (hQ : ∀ c a d v w, Q (.panic c) (a.put d v) w → Q (.panic c) a w) (hC : R w.drew)
    (h : Nonempty (In R) → wpQuiet P l.toArray (fun w' => ∃ p : In R, w' = p.w) (fun a' => wpMix P l.toArray (fun w' => ∃ p : In R, w' = p.w) Q (pick l (i :: π1)) a' w.drew ∧ wpMix P l.toArray (fun w' => ∃ p : In R, w' = p.w) Q (pick l (j :: π2)) a' w.drew) (pick l π0) a) : (Code.region id l.toArray true).wp P Q a w := by
  simp only [forkB, Bool.and_eq_true, decide_eq_true_eq, Bool.not_eq_true'] at hB
  obtain ⟨⟨⟨⟨⟨⟨⟨⟨hsel, hlen⟩, h12⟩, hall0⟩, hall1⟩, hall2⟩, hpi⟩, hpj⟩, hrest⟩ := hB
  have hk : (∃ p : In R, w.drew = p.w) := ⟨⟨_, hC⟩, rfl⟩
  refine wp_region_any hm ?_
  split at hrest
  case h_1 => cases hrest
  case h_2 li hli =>
    simp only [Bool.and_eq_true, beq_iff_eq] at hrest
    obtain ⟨⟨hready, hb1⟩, hb2⟩ := hrest
    have hp1 := pick_spec hall1
    have hp2 := pick_spec hall2
    simp only [List.map_cons, pick, List.cons.injEq] at hp1 hp2
    have sz : l.toArray.size = l.length := by simp
    have step : wpQuiet P l.toArray (fun w' => ∃ p : In R, w' = p.w) (fun a' => anyC P .any l.toArray (fun w' => ∃ p : In R, w' = p.w) Q (π1.length + 1) li a' w.drew) (pick l π0) a := by
      refine wpQuiet_imp ?_ _ _ (h ⟨⟨_, hC⟩⟩)
      intro a' ⟨hA, hBr⟩
      refine ⟨hk, fun h' => (by rw [hready] at h'; cases h'), fun k hk' => ?_⟩
      rw [hready] at hk'
      rcases List.mem_cons.1 hk' with rfl | hk'
      · exact wpOp_of_mix hsel hQ hp1.1 hpi hp1.2 hb1 hk hA
      · obtain rfl := List.mem_singleton.1 hk'
        rw [h12]
        exact wpOp_of_mix hsel hQ hp2.1 hpj hp2.2 hb2 hk hBr
    have := any_of_anyC _ _ _ _ (anyC_of_reads hsel hQ π0 (pick l π0) _ a (pick_spec hall0) hli hk step)
    rw [hlen] at this
    rw [sz]
    exact this
end
end Go.Proofs.Ytmkljmljbbijeaa

/- A range over a function whose iterator keeps cells of its own: one round, and the statement, at the wide fence. -/
import Derived.Test.YtfadpjljokpenaaChecked
import Derived.RangeFuncNested
import Derived.RangeFuncLeaves
import Derived.Shelf.Abstract
import Derived.Lib.Hide
import Derived.RangeFuncBound
namespace Go.Proofs.Ytfadpjljokpenaa
open Go Go.RowKit Go.Shelf

section
variable {P : Program}

/-- A loop's record. -/
def lrec (fn : FuncId) (tmps : Array Value) (ps : Array Tmp) (assign body : Code) (D : Nat) (st : LoopState) (pe : Option Code) : Loop := { state := st, pending := pe, fn, tmps, params := ps, assign, body, defers := D }
/-- The ways in which a round's body may be left. -/
def roundEnd (l D : Nat) (busy : Loop) (N : World → Prop) (X : Code → World → Prop) : Exit → Act → World → Prop
  | .normal, _, W => W.heap[l]? = some (.loop busy) ∧ W.heap[D]? = some (.deferred (some [])) ∧ N W
  | .ret, _, W => W.heap[l]? = some (.loop busy) ∧ W.heap[D]? = some (.deferred (some [])) ∧ X .ret W
  | .exit id, _, W => W.heap[l]? = some (.loop busy) ∧ W.heap[D]? = some (.deferred (some [])) ∧ X (.exit id) W
  | .goto t, _, W => W.heap[l]? = some (.loop busy) ∧ W.heap[D]? = some (.deferred (some [])) ∧ X (.goto t) W
  | .panic _, _, _ => False
  | .outgrown, _, _ => False

theorem round_at {F : Fence} {fn : FuncId} {tmps : Array Value} {ps : Array Tmp} {assign body : Code} {D l m : Nat} {W : World} {x : Array Value} (hF : F.fn fn)
    (hl : W.heap[l]? = some (.loop (lrec fn tmps ps assign body D .ready none))) (hk : W.heap[D]? = some (.deferred (some []))) (hDl : D ≠ l) (hx : x.size = ps.size) (N : World → Prop) (X : Code → World → Prop)
    (h : assign.wpIn (F.inRound l) m P (Exit.then (fun a' W' => W'.heap[l]? = W.heap[l]? ∧ W'.heap[D]? = W.heap[D]? ∧
      body.wpIn (F.inRound l) m P (roundEnd l D (lrec fn tmps ps assign body D .busy none) N X) a' (W'.putObj l (.loop (lrec fn tmps ps assign body D .busy none)))) (fun _ _ _ => False)) { tmps := (ps.zip x).foldl (fun t (p, v) => t.setIfInBounds p v) tmps, defers := [] } W) :
    YieldAt F m P l x W fun e W' => (e = .returned (.bool true) ∧ ∃ W3, N W3 ∧ W' = W3.putObj l (.loop (lrec fn tmps ps assign body D .ready none)) ∧ W'.heap[l]? = some (.loop (lrec fn tmps ps assign body D .ready none)) ∧ W'.heap[D]? = some (.deferred (some []))) ∨
      (e = .returned (.bool false) ∧ ∃ c W3, X c W3 ∧ W' = W3.putObj l (.loop (lrec fn tmps ps assign body D .done (some c))) ∧ W'.heap[l]? = some (.loop (lrec fn tmps ps assign body D .done (some c))) ∧ W'.heap[D]? = some (.deferred (some []))) := by
  have hy := run_yield (P := P) (args := x) hl hx
  refine ⟨fn, _, assign, body, hy, roundIn_of_wpIn hF (wpIn_mono h ?_)⟩
  rintro e a' W' hp
  cases e with
  | normal =>
    obtain ⟨e1, e2, hb⟩ := hp
    have hl1 : W'.heap[l]? = some (.loop (lrec fn tmps ps assign body D .ready none)) := e1.trans hl
    have hk1 : W'.heap[D]? = some (.deferred (some [])) := e2.trans hk
    refine ⟨_, run_beginRound hl1 rfl, wpIn_mono hb ?_⟩
    rintro e3 a3 W3 hq
    have fin : ∀ (jump : Option Code), W3.heap[l]? = some (.loop (lrec fn tmps ps assign body D .busy none)) → W3.heap[D]? = some (.deferred (some [])) →
        (Instr.endRound l jump).run P W3 = .ok (.bool jump.isNone) (W3.putObj l (.loop (lrec fn tmps ps assign body D (if jump.isNone then .ready else .done) jump))) ∧
        (W3.putObj l (.loop (lrec fn tmps ps assign body D (if jump.isNone then .ready else .done) jump))).heap[l]? = some (.loop (lrec fn tmps ps assign body D (if jump.isNone then .ready else .done) jump)) ∧
        (W3.putObj l (.loop (lrec fn tmps ps assign body D (if jump.isNone then .ready else .done) jump))).heap[D]? = some (.deferred (some [])) := fun jump h1 h2 =>
      ⟨run_endRound jump h1, World.putObj_heap_same (Array.getElem?_eq_some_iff.1 h1).1, (World.putObj_heap_other hDl).trans h2⟩
    cases e3 with
    | normal =>
      obtain ⟨q1, q2, q3⟩ := hq
      obtain ⟨f1, f2, f3⟩ := fin none q1 q2
      exact ⟨_, _, f1, .inl ⟨rfl, W3, q3, rfl, f2, f3⟩⟩
    | ret =>
      obtain ⟨q1, q2, q3⟩ := hq
      obtain ⟨f1, f2, f3⟩ := fin (some .ret) q1 q2
      exact ⟨_, _, f1, .inr ⟨rfl, .ret, W3, q3, rfl, f2, f3⟩⟩
    | exit id =>
      obtain ⟨q1, q2, q3⟩ := hq
      obtain ⟨f1, f2, f3⟩ := fin (some (.exit id)) q1 q2
      exact ⟨_, _, f1, .inr ⟨rfl, .exit id, W3, q3, rfl, f2, f3⟩⟩
    | goto t =>
      obtain ⟨q1, q2, q3⟩ := hq
      obtain ⟨f1, f2, f3⟩ := fin (some (.goto t)) q1 q2
      exact ⟨_, _, f1, .inr ⟨rfl, .goto t, W3, q3, rfl, f2, f3⟩⟩
    | panic ch => exact hq.elim
    | outgrown => exact hq.elim
  | ret => exact hp.elim
  | exit id => exact hp.elim
  | goto t => exact hp.elim
  | panic ch => exact hp.elim
  | outgrown => exact hp.elim

/-- The world in which the iterator is called. -/
def loopW (w : World) (r : Loop) : World := (w.alloc (.deferred (some []))).alloc (.loop r)
theorem loopW_at (w : World) (r : Loop) : (loopW w r).heap[w.heap.size + 1]? = some (.loop r) ∧ (loopW w r).heap[w.heap.size]? = some (.deferred (some [])) ∧ Below w.heap.size w (loopW w r) ∧ (loopW w r).heap.size = w.heap.size + 2 := by
  have s1 : (w.alloc (.deferred (some []))).heap.size = w.heap.size + 1 := by simp
  refine ⟨?_, ?_, ?_, ?_⟩
  · have := World.alloc_heap_new (w.alloc (.deferred (some []))) (.loop r)
    rwa [s1] at this
  · exact (Below.heap_alloc _ _ _ (by simp)).trans (World.alloc_heap_new w _)
  · exact ((Below.refl _ w).alloc (Nat.le_refl _) _).alloc (by simp) _
  · unfold loopW; simp
/-- The statement, out of the iterator's call. -/
theorem range_it {n : Nat} {g : Operand} {ps : Array Tmp} {assign body : Code} {Q : Exit → Act → World → Prop} {a : Act} {w : World} {gf : Nat} {lb : Array Value} (hg : a.eval g = .func (.func gf) #[] lb) (eg : ∀ args w, (callFunc gf args).run P w = .ok (.enter gf args) w)
    (h : ∀ fn, CallsIn Fence.wide n P gf (#[.func (.yield (w.heap.size + 1)) #[] #[]] ++ lb) (loopW w (lrec fn a.tmps ps assign body w.heap.size .ready none)) fun e W' => (∃ v, e = .returned v) ∧
      ((W'.heap[w.heap.size + 1]? = some (.loop (lrec fn a.tmps ps assign body w.heap.size .ready none)) ∧ Q .normal { a with defers := { target := .collected w.heap.size, args := #[] } :: a.defers } (W'.putObj (w.heap.size + 1) (.loop (lrec fn a.tmps ps assign body w.heap.size .exhausted none)))) ∨
       (∃ c, W'.heap[w.heap.size + 1]? = some (.loop (lrec fn a.tmps ps assign body w.heap.size .done (some c))) ∧ c.wpIn Fence.wide (n + 1) P Q { a with defers := { target := .collected w.heap.size, args := #[] } :: a.defers } (W'.putObj (w.heap.size + 1) (.loop (lrec fn a.tmps ps assign body w.heap.size .exhausted (some c))))))) :
    (Code.rangeFunc g ps assign body).wpIn Fence.wide (n + 1) P Q a w := by
  refine wpIn_rangeFunc ?_
  intro fn hfn
  refine ⟨w.heap.size + 1, [{ target := .collected w.heap.size, args := #[] }], loopW w (lrec fn a.tmps ps assign body w.heap.size .ready none), { target := .fn (.func gf) lb, args := #[.func (.yield (w.heap.size + 1)) #[] #[]] }, loopW w (lrec fn a.tmps ps assign body w.heap.size .ready none), gf,
    #[.func (.yield (w.heap.size + 1)) #[] #[]] ++ lb, loopW w (lrec fn a.tmps ps assign body w.heap.size .ready none), ?_, ?_, ?_, ?_, fun hd => (by cases hd), ?_⟩
  · exact run_enterLoop_outer _ _ _ _ _
  · simp only [resolve, hg]
    simp [go_sem]
  · intro f' hf'; trivial
  · simp [invoke, go_sem, eg]
  · refine (h fn).mono ?_
    rintro e W2 ⟨⟨v, rfl⟩, (⟨h1, h2⟩ | ⟨c, h1, h2⟩)⟩
    · exact ⟨none, _, run_endLoop h1 (by simp [lrec]), h2⟩
    · exact ⟨some c, _, run_endLoop h1 (by simp [lrec]), h2⟩
/-- A loop's record at another state. -/
def lst (lo : Loop) (st : LoopState) (pe : Option Code) : Loop := { lo with state := st, pending := pe }
theorem range_in {n : Nat} {g : Operand} {ps : Array Tmp} {assign body : Code} {Q : Exit → Act → World → Prop} {a : Act} {w : World} {gf : Nat} {lb : Array Value} (hg : a.eval g = .func (.func gf) #[] lb) (eg : ∀ args w, (callFunc gf args).run P w = .ok (.enter gf args) w)
    (h : ∀ fn lo, Hid (lo = lrec fn a.tmps ps assign body w.heap.size .ready none) → CallsIn Fence.wide n P gf (#[.func (.yield (w.heap.size + 1)) #[] #[]] ++ lb) (loopW w lo) fun e W' => (∃ v, e = .returned v) ∧
      ((W'.heap[w.heap.size + 1]? = some (.loop lo) ∧ Q .normal { a with defers := { target := .collected w.heap.size, args := #[] } :: a.defers } (W'.putObj (w.heap.size + 1) (.loop (lst lo .exhausted none)))) ∨
       (∃ c, W'.heap[w.heap.size + 1]? = some (.loop (lst lo .done (some c))) ∧ c.wpIn Fence.wide (n + 1) P Q { a with defers := { target := .collected w.heap.size, args := #[] } :: a.defers } (W'.putObj (w.heap.size + 1) (.loop (lst lo .exhausted (some c))))))) :
    (Code.rangeFunc g ps assign body).wpIn Fence.wide (n + 1) P Q a w :=
  range_it hg eg fun fn => (h fn _ (Lib.hid rfl)).mono fun _ _ h => h
/-- One round: the record's and the deferred block's part. -/
def roundTo (l D : Nat) (lo : Loop) (N : World → Prop) (X : Code → World → Prop) : Exit → Act → World → Prop
  | .normal, _, W => W.heap[l]? = some (.loop (lst lo .busy none)) ∧ W.heap[D]? = some (.deferred (some [])) ∧ N W
  | .ret, _, W => W.heap[l]? = some (.loop (lst lo .busy none)) ∧ W.heap[D]? = some (.deferred (some [])) ∧ X .ret W
  | .exit id, _, W => W.heap[l]? = some (.loop (lst lo .busy none)) ∧ W.heap[D]? = some (.deferred (some [])) ∧ X (.exit id) W
  | .goto t, _, W => W.heap[l]? = some (.loop (lst lo .busy none)) ∧ W.heap[D]? = some (.deferred (some [])) ∧ X (.goto t) W
  | .panic _, _, _ => False
  | .outgrown, _, _ => False
theorem roundTo_normal {l D : Nat} {lo : Loop} {N : World → Prop} {X : Code → World → Prop} {a : Act} {W : World} (h1 : W.heap[l]? = some (.loop (lst lo .busy none))) (h2 : W.heap[D]? = some (.deferred (some []))) (h3 : N W) : roundTo l D lo N X .normal a W := ⟨h1, h2, h3⟩
theorem roundTo_ret {l D : Nat} {lo : Loop} {N : World → Prop} {X : Code → World → Prop} {a : Act} {W : World} (h1 : W.heap[l]? = some (.loop (lst lo .busy none))) (h2 : W.heap[D]? = some (.deferred (some []))) (h3 : X .ret W) : roundTo l D lo N X .ret a W := ⟨h1, h2, h3⟩
theorem roundTo_exit {l D id : Nat} {lo : Loop} {N : World → Prop} {X : Code → World → Prop} {a : Act} {W : World} (h1 : W.heap[l]? = some (.loop (lst lo .busy none))) (h2 : W.heap[D]? = some (.deferred (some []))) (h3 : X (.exit id) W) : roundTo l D lo N X (.exit id) a W := ⟨h1, h2, h3⟩
theorem round_in {F : Fence} {fn : FuncId} {tmps : Array Value} {ps : Array Tmp} {assign body : Code} {D l m : Nat} {W : World} {x : Array Value} {lo : Loop} (hlo : Hid (lo = lrec fn tmps ps assign body D .ready none)) (hF : F.fn fn)
    (hl : W.heap[l]? = some (.loop lo)) (hk : W.heap[D]? = some (.deferred (some []))) (hDl : D ≠ l) (hx : x.size = ps.size) (N : World → Prop) (X : Code → World → Prop)
    (h : assign.wpIn (F.inRound l) m P (Exit.then (fun a' W' => W'.heap[l]? = W.heap[l]? ∧ W'.heap[D]? = W.heap[D]? ∧
      body.wpIn (F.inRound l) m P (roundTo l D lo N X) a' (W'.putObj l (.loop (lst lo .busy none)))) (fun _ _ _ => False)) { tmps := (ps.zip x).foldl (fun t (p, v) => t.setIfInBounds p v) tmps, defers := [] } W) :
    YieldAt F m P l x W fun e W' => (e = .returned (.bool true) ∧ ∃ W3, W3.heap[l]? = some (.loop (lst lo .busy none)) ∧ N W3 ∧ W' = W3.putObj l (.loop lo) ∧ W'.heap[l]? = some (.loop lo) ∧ W'.heap[D]? = some (.deferred (some []))) ∨
      (e = .returned (.bool false) ∧ ∃ c W3, W3.heap[l]? = some (.loop (lst lo .busy none)) ∧ X c W3 ∧ W' = W3.putObj l (.loop (lst lo .done (some c))) ∧ W'.heap[l]? = some (.loop (lst lo .done (some c))) ∧ W'.heap[D]? = some (.deferred (some []))) := by
  have hlo' := hlo.out
  subst hlo'
  refine YieldAt.mono (round_at hF hl hk hDl hx (fun W => W.heap[l]? = some (.loop (lrec fn tmps ps assign body D .busy none)) ∧ N W) (fun c W => W.heap[l]? = some (.loop (lrec fn tmps ps assign body D .busy none)) ∧ X c W) (wpIn_mono h ?_)) ?_
  · intro e a W' hq
    cases e with
    | normal =>
      refine ⟨hq.1, hq.2.1, wpIn_mono hq.2.2 ?_⟩
      intro e a W3 hp
      cases e with
      | normal => exact ⟨hp.1, hp.2.1, hp.1, hp.2.2⟩
      | ret => exact ⟨hp.1, hp.2.1, hp.1, hp.2.2⟩
      | exit id => exact ⟨hp.1, hp.2.1, hp.1, hp.2.2⟩
      | goto t => exact ⟨hp.1, hp.2.1, hp.1, hp.2.2⟩
      | panic ch => exact hp
      | outgrown => exact hp
    | ret => exact hq
    | exit id => exact hq
    | goto t => exact hq
    | panic ch => exact hq
    | outgrown => exact hq
  · rintro e W' (⟨rfl, W3, ⟨h1, h2⟩, h3, h4, h5⟩ | ⟨rfl, c, W3, ⟨h1, h2⟩, h3, h4, h5⟩)
    · exact .inl ⟨rfl, W3, h1, h2, h3, h4, h5⟩
    · exact .inr ⟨rfl, c, W3, h1, h2, h3, h4, h5⟩
attribute [irreducible] roundTo
end
end Go.Proofs.Ytfadpjljokpenaa

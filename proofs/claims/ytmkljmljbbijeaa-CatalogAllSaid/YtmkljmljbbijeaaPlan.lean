/- A drawn region whose last operation waits for all others, the acting ones among the others coming in several orders: a plan says which. -/
import Derived.Test.YtmkljmljbbijeaaFork2
import Derived.Test.YtmkljmljbbijeaaCatRefCut
import Derived.Test.YtmkljmljbbijeaaCatEq
import Derived.Test.YtmkljmljbbijeaaKept
namespace Go.Proofs.Ytmkljmljbbijeaa
open Go

section
variable {P : Program} {ops : Array Oper} {md : Region.Mode} {C : World → Prop}

/-- Operations in a row; two that may come in either order, each with what follows. -/
inductive Plan where
  | done
  | run (π : List Nat) (p : Plan)
  | fork (i : Nat) (π1 : List Nat) (p : Plan) (j : Nat) (π2 : List Nat) (q : Plan)
/-- What is asked behind a run. -/
def planQ (Q : Exit → Act → World → Prop) (N : Act → World → Prop) (e : Exit) (a : Act) (w : World) : Prop :=
  match e with
  | .normal => N a w
  | e => Q e a w
def okB (md : Region.Mode) (ops : Array Oper) (n i : Nat) (o : Oper) (listed : Array Bool) : Bool := decide (i < n) && (if plainB o.op then (Region.ready md ops listed).contains i && Region.free md ops listed i else Region.ready md ops listed == [i])
def runB (md : Region.Mode) (ops : Array Oper) (n : Nat) : List Nat → Array Bool → Option (Array Bool)
  | [], listed => some listed
  | i :: l, listed => match ops[i]? with
    | none => none
    | some o => if okB md ops n i o listed then runB md ops n l (listed.setIfInBounds i true) else none
def planB (md : Region.Mode) (l : List Oper) (n : Nat) : Nat → Plan → Array Bool → Bool
  | f, .done, listed => decide (f = 0) && Region.seqB md l.toArray 1 n listed
  | f, .run π p, listed => (π.all fun k => decide (k < l.length)) && decide (π.length ≤ f) && match runB md l.toArray n π listed with
    | none => false
    | some li => planB md l n (f - π.length) p li
  | f, .fork i π1 p j π2 q, listed => ((i :: π1).all fun k => decide (k < l.length)) && ((j :: π2).all fun k => decide (k < l.length)) && decide (i < n) && decide (j < n) && decide (π1.length + 1 ≤ f) && decide (π2.length + 1 ≤ f) &&
    (Region.ready md l.toArray listed == [i, j]) && !plainB (l.getD i ⟨none, .move (.tmp 0), 0, "", #[], none⟩).op && !plainB (l.getD j ⟨none, .move (.tmp 0), 0, "", #[], none⟩).op &&
    (match runB md l.toArray n π1 (listed.setIfInBounds i true) with
      | none => false
      | some li => planB md l n (f - (π1.length + 1)) p li) &&
    (match runB md l.toArray n π2 (listed.setIfInBounds j true) with
      | none => false
      | some li => planB md l n (f - (π2.length + 1)) q li)
def wpPlan (P : Program) (l : List Oper) (C : World → Prop) (Q : Exit → Act → World → Prop) (tail : List Oper) : Plan → Act → World → Prop
  | .done, a, w => wpList P l.toArray Q tail a w
  | .run π p, a, w => wpMix P l.toArray C (planQ Q (wpPlan P l C Q tail p)) (pick l π) a w
  | .fork i π1 p j π2 q, a, w => wpMix P l.toArray C (planQ Q (wpPlan P l C Q tail p)) (pick l (i :: π1)) a w ∧ wpMix P l.toArray C (planQ Q (wpPlan P l C Q tail q)) (pick l (j :: π2)) a w

/-- The first operation of a run acts. -/
theorem opT_of_mix {Q : Exit → Act → World → Prop} {N : Act → World → Prop} {T : Act → World → Prop} {i : Nat} {o : Oper} {l : List Oper} {a : Act} {w : World} (h0 : ops[i]? = some o) (hp : plainB o.op = false) (hC : C w)
    (step : ∀ a' w', (C w' ∧ wpMix P ops C (planQ Q N) l a' w') → T a' w') (h : wpMix P ops C (planQ Q N) (o :: l) a w) : wpOp P ops Q i T a w := by
  rw [wpMix] at h
  unfold wpOp
  simp only [h0]
  by_cases hw : Region.wanted o (yielded ops a.tmps) = true
  · simp only [hw, hp, if_true] at h ⊢
    rcases h with h | ⟨h, h'⟩
    · refine .inl ?_
      have hL : LetsOut (planQ Q N) → LetsOut Q := fun ⟨a, w, h⟩ => ⟨a, w, h⟩
      unfold Oper.wp at *
      generalize (execOp a.eval o).run P w = r at *
      cases r with
      | ok nx w' =>
        cases nx <;> simp only [Oper.upon] at h ⊢
        case value u => exact step _ _ h
        case skip => exact step _ _ h
        case defer d => exact step _ _ h
        case enter f args =>
          refine Calls.mono h fun e w'' he => ?_
          cases e with
          | returned u => exact step _ _ he
          | panicked c => exact he
          | outgrown => exact hL he
        case row row args => exact Rows.mono h fun u w'' he => step _ _ he
      | halt x w' =>
        cases x <;> simp only [Oper.upon] at h ⊢
        case panic u => exact h
    · exact .inr ⟨h, (fun ⟨a, w, h⟩ => ⟨a, w, h⟩ : LetsOut (planQ Q N) → LetsOut Q) h'⟩
  · simp only [hw] at h ⊢
    exact step _ _ ⟨hC, h⟩

theorem anyT_of_run {Q : Exit → Act → World → Prop} {N : Act → World → Prop} {n f : Nat} {li : Array Bool} {L : Array Bool → Act → World → Prop} (hs : Region.noSelect ops = true) (hsk : Region.sinkB md ops n = true) (hch : Region.chainB md ops n = true) (hn : n < ops.size) (hdone : ∀ listed a w, L listed a w → ∀ j ∈ Region.ready md ops listed, n ≤ j) (hQ : ∀ c a d v w, Q (.panic c) (a.put d v) w → Q (.panic c) a w)
    (hN : ∀ a w, C w → HeadInv md ops n li → N a w → anyT P md ops C Q n L f li a w) :
    ∀ (π : List Nat) (l : List Oper) (listed : Array Bool) (a : Act) (w : World), π.map (ops[·]?) = l.map some → HeadInv md ops n listed →
    runB md ops n π listed = some li → C w → wpMix P ops C (planQ Q N) l a w → anyT P md ops C Q n L (π.length + f) listed a w
  | [], [], listed, a, w, _, inv, hB, hC, h => by
    simp only [runB, Option.some.injEq] at hB
    subst hB
    rw [List.length_nil, Nat.zero_add]
    exact hN a w hC inv h
  | [], _ :: _, _, _, _, hl, _, _, _, _ => by simp at hl
  | _ :: _, [], _, _, _, hl, _, _, _, _ => by simp at hl
  | i :: π, o :: l, listed, a, w, hl, inv, hB, hC, h => by
    simp only [List.map_cons, List.cons.injEq] at hl
    obtain ⟨h0, hl⟩ := hl
    simp only [runB, h0] at hB
    split at hB
    case isFalse => cases hB
    case isTrue hc =>
      simp only [okB, Bool.and_eq_true, decide_eq_true_eq] at hc
      obtain ⟨hin, hB0⟩ := hc
      rw [show (i :: π).length + f = (π.length + f) + 1 by rw [List.length_cons]; omega]
      by_cases hp : plainB o.op = true
      · simp only [hp, if_true, Bool.and_eq_true] at hB0
        obtain ⟨hr, hf⟩ := hB0
        have hr' : i ∈ Region.ready md ops listed := by simpa using hr
        have key : ∃ v, Stays P ops C o v a ∧ wpMix P ops C (planQ Q N) l (a.put o.dst v) w := by
          rw [wpMix] at h
          by_cases hw : Region.wanted o (yielded ops a.tmps) = true
          · simp only [hw, hp, if_true] at h
            obtain ⟨v, hv, hK⟩ := h
            exact ⟨v, .inl ⟨hw, fun w' hw' => plain_stays hp (hv w' hw')⟩, hK⟩
          · simp only [hw] at h
            exact ⟨undef, .inr ⟨by simpa using hw, rfl⟩, h⟩
        obtain ⟨v, hy, hK⟩ := key
        exact anyT_first h0 (Region.noSelect_spec hs) hQ hsk hch hn hin hdone _ listed a w inv (Region.free_spec h0 hf) hr' hy
          (anyT_of_run hs hsk hch hn hdone hQ hN π l _ _ _ hl (inv.set hr' hin) hB hC hK)
      · simp only [hp] at hB0
        have hr : Region.ready md ops listed = [i] := by simpa using hB0
        have hr' : i ∈ Region.ready md ops listed := by rw [hr]; simp
        refine ⟨hC, fun h' => (by rw [hr] at h'; cases h'), fun j hj => ?_⟩
        rw [hr] at hj
        obtain rfl := List.mem_singleton.1 hj
        exact ⟨hin, opT_of_mix h0 (by simpa using hp) hC (fun a' w' hh => anyT_of_run hs hsk hch hn hdone hQ hN π l _ _ _ hl (inv.set hr' hin) hB hh.1 hh.2) h⟩

theorem anyT_of_plan {Q : Exit → Act → World → Prop} {n : Nat} {l tail : List Oper} (hs : Region.noSelect l.toArray = true) (hsk : Region.sinkB md l.toArray n = true) (hch : Region.chainB md l.toArray n = true) (hn : n < l.toArray.size) (hQ : ∀ c a d v w, Q (.panic c) (a.put d v) w → Q (.panic c) a w) :
    ∀ (p : Plan) (f : Nat) (listed : Array Bool) (a : Act) (w : World), planB md l n f p listed = true → HeadInv md l.toArray n listed → C w → wpPlan P l C Q tail p a w →
      anyT P md l.toArray C Q n (fun listed a w => Region.seqB md l.toArray 1 n listed = true ∧ wpList P l.toArray Q tail a w) f listed a w
  | .done, f, listed, a, w, hB, _, hC, h => by
    simp only [planB, Bool.and_eq_true, decide_eq_true_eq] at hB
    obtain ⟨rfl, hB⟩ := hB
    exact ⟨hC, hB, h⟩
  | .run π p, f, listed, a, w, hB, inv, hC, h => by
    simp only [planB, Bool.and_eq_true, decide_eq_true_eq] at hB
    obtain ⟨⟨hall, hf⟩, hB⟩ := hB
    split at hB
    case h_1 => cases hB
    case h_2 li hli =>
      have := anyT_of_run (f := f - π.length) hs hsk hch hn (fun listed' a' w' hL => seqB_ready hL.1) hQ (fun a' w' hC' inv' h' => anyT_of_plan hs hsk hch hn hQ p _ _ _ _ hB inv' hC' h') π (pick l π) listed a w (pick_spec hall) inv hli hC h
      rwa [show π.length + (f - π.length) = f by omega] at this
  | .fork i π1 p j π2 q, f, listed, a, w, hB, inv, hC, h => by
    simp only [planB, Bool.and_eq_true, decide_eq_true_eq, beq_iff_eq, Bool.not_eq_true'] at hB
    obtain ⟨⟨⟨⟨⟨⟨⟨⟨⟨⟨hall1, hall2⟩, hi⟩, hj⟩, hf1⟩, hf2⟩, hr⟩, hpi⟩, hpj⟩, hB1⟩, hB2⟩ := hB
    have hp1 := pick_spec hall1
    have hp2 := pick_spec hall2
    simp only [List.map_cons, pick, List.cons.injEq] at hp1 hp2
    have hri : i ∈ Region.ready md l.toArray listed := by rw [hr]; simp
    have hrj : j ∈ Region.ready md l.toArray listed := by rw [hr]; simp
    obtain ⟨f', rfl⟩ : ∃ f', f = f' + 1 := ⟨f - 1, by omega⟩
    refine ⟨hC, fun h' => (by rw [hr] at h'; cases h'), fun k hk => ?_⟩
    rw [hr] at hk
    rcases List.mem_cons.1 hk with rfl | hk
    · refine ⟨hi, ?_⟩
      split at hB1
      case h_1 => cases hB1
      case h_2 li hli =>
        refine opT_of_mix hp1.1 hpi hC (fun a' w' hh => ?_) h.1
        have := anyT_of_run (f := f' + 1 - (π1.length + 1)) hs hsk hch hn (fun listed' a' w' hL => seqB_ready hL.1) hQ (fun a' w' hC' inv' h' => anyT_of_plan hs hsk hch hn hQ p _ _ _ _ hB1 inv' hC' h') π1 _ _ a' w' hp1.2 (inv.set hri hi) hli hh.1 hh.2
        rwa [show π1.length + (f' + 1 - (π1.length + 1)) = f' by omega] at this
    · obtain rfl := List.mem_singleton.1 hk
      refine ⟨hj, ?_⟩
      split at hB2
      case h_1 => cases hB2
      case h_2 li hli =>
        refine opT_of_mix hp2.1 hpj hC (fun a' w' hh => ?_) h.2
        have := anyT_of_run (f := f' + 1 - (π2.length + 1)) hs hsk hch hn (fun listed' a' w' hL => seqB_ready hL.1) hQ (fun a' w' hC' inv' h' => anyT_of_plan hs hsk hch hn hQ q _ _ _ _ hB2 inv' hC' h') π2 _ _ a' w' hp2.2 (inv.set hrj hj) hli hh.1 hh.2
        rwa [show π2.length + (f' + 1 - (π2.length + 1)) = f' by omega] at this
def planTB (md : Region.Mode) (l : List Oper) (p : Plan) (n : Nat) : Bool :=
  Region.noSelect l.toArray && decide (n + 1 = l.length) && Region.sinkB md l.toArray n && Region.chainB md l.toArray n && planB md l n n p (Array.replicate l.length false)
/-- The law. -/
theorem wp_region_plan {id : Nat} {Q : Exit → Act → World → Prop} {a : Act} {w : World} {l : List Oper} (p : Plan) (n : Nat) (R : World → Prop) (hm : P.follows .mixedOrders = true) (hB : planTB .any l p n = true)
    (hQ : ∀ c a d v w, Q (.panic c) (a.put d v) w → Q (.panic c) a w) (hC : R w.drew) (h : Nonempty (In R) → wpPlan P l (fun w' => ∃ p : In R, w' = p.w) Q (l.drop n) p a w.drew) : (Code.region id l.toArray true).wp P Q a w := by
  simp only [planTB, Bool.and_eq_true, decide_eq_true_eq] at hB
  obtain ⟨⟨⟨⟨hsel, hn⟩, hs⟩, hc⟩, hh⟩ := hB
  have hsz : l.toArray.size = l.length := by simp
  have inv0 : HeadInv .any l.toArray n (Array.replicate l.length false) :=
    ⟨by simp, fun j oj _ hl => (by rw [getD_replicate_false] at hl; cases hl), fun t _ ht => getD_in (by simpa using ht) (getD_replicate_false _ _)⟩
  refine wp_region_any hm ?_
  have := any_of_anyT (g := 1) (fun listed' a' w' hL => by
    have hdl : (l.drop n).length = 1 := by simp; omega
    have := wpAny_of_seq (md := .any) (Q' := Q) (l.drop n) n listed' a' w' (fun j => by simp [List.getElem?_drop]) (by rw [hdl]; exact hL.1) hL.2
    rwa [hdl] at this) _ _ _ _ (anyT_of_plan hsel hs hc (by omega) hQ p n _ _ _ hh inv0 ⟨⟨_, hC⟩, rfl⟩ (h ⟨⟨_, hC⟩⟩))
  rw [hsz, ← hn]
  rw [← hn] at this
  exact this
end
end Go.Proofs.Ytmkljmljbbijeaa

/-! The walk of flumelaw10.twin. -/
namespace Go.Proofs.Ytmkljmljbbijeaa
open Go.RowKit

/-- The mark behind a twin. -/
def m7 : SegV := ⟨-7, 0, 0#32, 0, 0⟩
theorem m7_ok : SegOk m7 := ⟨⟨by decide, by decide⟩, ⟨by decide, by decide⟩, ⟨by decide, by decide⟩, ⟨by decide, by decide⟩⟩
theorem twin_cap {w : World} {base g n cap : Nat} {L : List SegV} (h : OwnS w base (.slice (some ⟨g, 0, none⟩) n cap) L) : n ≤ cap ∧ base ≤ g ∧ g < w.heap.size := by
  rcases h.2 with ⟨h0, -⟩ | ⟨g', cap', cur, hv, hb, hc, hle, -⟩
  · cases h0
  · injection hv with hv1 hv2 hv3
    injection hv1 with hv1
    injection hv1 with hv1
    subst hv1 hv3
    exact ⟨by rw [hv2]; exact hle, hb, heap_lt hc⟩
def TwinB (w : World) (gen first : Int) (n : Nat) (L : List SegV) (e : Ending) (w' : World) : Prop := ∃ g cap, e = .returned (.agg #[.int .i64 gen, .int .i64 first, .slice (some ⟨g, 0, none⟩) n cap]) ∧ n + 1 ≤ cap ∧ OwnS w' w.heap.size (.slice (some ⟨g, 0, none⟩) (n + 1) cap) (L ++ [m7]) ∧ Below w.heap.size w w'

set_option maxRecDepth 100000 in
set_option maxHeartbeats 4000000 in
theorem twin_walk (gen first : Int) (ao : Option Addr) (n ca : Nat) (L : List SegV) (w : World) (hn : L.length = n) (hl : n ≤ 100000) (hA : CatAt w (.agg #[.int .i64 gen, .int .i64 first, .slice ao n ca]) ⟨gen, first, L⟩) :
    Calls Try.prog 16 #[.agg #[.int .i64 gen, .int .i64 first, .slice ao n ca]] w (TwinB w gen first n L) := by
  obtain ⟨ao', ca', e1, hsg, hle, hcm, hnil⟩ := hA.shape
  injection e1 with e1
  simp only [Array.mk.injEq, List.cons.injEq, Value.slice.injEq, and_true, true_and] at e1
  obtain ⟨rfl, -, rfl⟩ := e1
  dsimp only at hsg hle hcm
  have b1 := below_alloc w (.cells #[.int .i64 gen, .int .i64 first, .slice ao n ca] 29)
  have hn1 := heap_alloc_new w (.cells #[.int .i64 gen, .int .i64 first, .slice ao n ca] 29)
  obtain ⟨w1, hw1⟩ : ∃ w1, w.alloc (.cells #[.int .i64 gen, .int .i64 first, .slice ao n ca] 29) = w1 := ⟨_, rfl⟩
  rw [hw1] at b1 hn1
  have b2 := below_alloc w1 (.cells #[.int .i64 0, .int .i64 0, .slice none 0 0] 29)
  have hn2 := heap_alloc_new w1 (.cells #[.int .i64 0, .int .i64 0, .slice none 0 0] 29)
  obtain ⟨w2, hw2⟩ : ∃ w2, w1.alloc (.cells #[.int .i64 0, .int .i64 0, .slice none 0 0] 29) = w2 := ⟨_, rfl⟩
  rw [hw2] at b2 hn2
  have HC := Lib.hid ((b2.block _ (heap_lt hn1)).trans hn1)
  have HR := Lib.hid hn2
  have HB2 := Lib.hid (below_trans b1 b2)
  have HL1 := Lib.hid (heap_lt hn1)
  have HLT := Lib.hid (show w.heap.size ≠ w1.heap.size by have := heap_lt hn1; omega)
  have HS := Lib.hid (hsg.below HB2.out)
  have HN := Lib.hid hn
  have HNil := Lib.hid hnil
  have LEN : Hid (([] : List SegV).length + L.length ≤ 3518437208883) := Lib.hid (by rw [hn]; simp; omega)
  have LEN1 : Hid (L.length + [m7].length ≤ 3518437208883) := Lib.hid (by rw [hn]; simp; omega)
  have BC : Hid (∀ {W : World}, Below w2.heap.size w2 W → W.cell? ⟨w.heap.size, 2, none⟩ = some (.slice ao n ca)) := Lib.hid fun hW => cell_of_row _ _ 2 _ _ _ ((hW.block _ (heap_lt HC.out)).trans HC.out)
  have qs0 : ∀ p : In (fun w' => w'.cell? ⟨w.heap.size, 2, none⟩ = some (.slice ao n ca)), p.w.cell? ⟨w.heap.size, 2, none⟩ = some (.slice ao n ca) := fun p => p.h
  clear b1 b2 hn1 hn2 hsg hnil hn hA
  go_enter Try.func16, Try.ntmps16
  go_wp2_with fail
  refine wp_region_plan (.run [0, 1, 6, 7, 8] (.fork 2 [3, 4, 5, 9, 10] .done 3 [] (.fork 2 [4, 5, 9, 10] .done 4 [2, 5, 9, 10] .done))) 11 (fun w' => w'.cell? ⟨w.heap.size, 2, none⟩ = some (.slice ao n ca)) (by kernel_rfl) (by kernel_rfl) (by intro c a d v w h; cases d <;> exact h) (BC.out (below_drew w2)) ?_
  intro hne
  unfold wpPlan
  simp only [pick, List.map_cons, List.map_nil, List.getD_cons_zero, List.getD_cons_succ]
  refine wpMix_reads 5 _ (by kernel_rfl) ?_
  simp only [List.take_succ_cons, List.take_zero, List.drop_succ_cons, List.drop_zero]
  repeat (go_big_quiet_step (fail))
  refine wpQuiet_nil ?_
  refine wpMix_nil ?_
  unfold planQ wpPlan
  dsimp only
  refine ⟨?_, ?_⟩
  · simp only [pick, List.map_cons, List.map_nil, List.getD_cons_zero, List.getD_cons_succ]
    refine wpMix_act rfl ?_ rfl
    go_wp2_with (refine wpList_append_segs (o := ⟨some 5, _, _, _, _, _⟩) rfl _ _ rfl w.heap.size (.slice none 0 0) [] rfl (OwnS.nil _ _) ao n ca L rfl HN.out.symm (HS.out.below (below_drew w2)) HNil.out LEN.out (by have := HB2.out.size; exact this) ?_)
    intro v5 w5 ho5 hg5
    have B5 := Lib.hid (show Below w2.heap.size w2 w5 from (below_drew w2).grown hg5 (below_drew w2).size (fun k hk => by cases hk))
    have O5 := Lib.hid (show OwnS w5 w.heap.size v5 L from ho5)
    clear ho5 hg5
    go_wp2_with fail
    refine ⟨⟨⟨_, BC.out B5.out⟩, rfl⟩, ?_⟩
    refine wpMix_act rfl ?_ rfl
    go_wp2_with fail
    refine ⟨⟨⟨_, BC.out B5.out⟩, rfl⟩, ?_⟩
    refine wpMix_act rfl ?_ rfl
    go_wp2_with fail
    have B6 := Lib.hid (below_trans B5.out (below_alloc w5 (.cells #[.int .i64 (-7), .int .i64 0, .int .u32 0, .int .i64 0, .int .i64 0] 53)))
    have SG := Lib.hid (seg_alloc w5 m7 m7_ok 53)
    have SZ6 := Lib.hid (Nat.le_trans HB2.out.size B6.out.size)
    have SEG6 := Lib.hid (HS.out.below B6.out)
    have O5K := Lib.hid (O5.out.keep (below_alloc w5 (.cells #[.int .i64 (-7), .int .i64 0, .int .u32 0, .int .i64 0, .int .i64 0] 53)))
    refine ⟨⟨⟨_, BC.out B6.out⟩, rfl⟩, ?_⟩
    refine wpMix_act rfl ?_ rfl
    go_wp2_with (refine wpList_append_segs (o := ⟨some 8, _, _, _, _, _⟩) rfl _ _ rfl w.heap.size v5 L rfl O5K.out (some ⟨w5.heap.size, 0, none⟩) 1 1 [m7] rfl rfl SG.out (fun e => by cases e) LEN1.out (Nat.le_trans HB2.out.size B6.out.size) ?_)
    intro v8 w8 ho8 hg8
    obtain ⟨L8, hL8⟩ : ∃ L8, L ++ [m7] = L8 := ⟨_, rfl⟩
    have hl8 : L8.length = n + 1 := by rw [← hL8, List.length_append, HN.out]; rfl
    rw [hL8] at ho8
    have W8 := Lib.hid (show Below w.heap.size w w8 from (below_trans HB2.out B6.out).grown hg8 (below_trans HB2.out B6.out).size (fun k hk => by have := (rows_blk O5K.out hk).1; omega))
    have NB : v5.ownBlock ≠ some w.heap.size ∧ v5.ownBlock ≠ some w1.heap.size := ⟨fun e => by
      obtain ⟨-, c, hc⟩ := rows_blk O5K.out e
      rw [(B6.out.block _ (heap_lt HC.out)).trans HC.out] at hc
      simp at hc, fun e => by
      obtain ⟨-, c, hc⟩ := rows_blk O5K.out e
      rw [(B6.out.block _ (heap_lt HR.out)).trans HR.out] at hc
      simp at hc⟩
    have C8 := (hg8.block _ (Nat.lt_of_lt_of_le (heap_lt HC.out) B6.out.size) (fun e => NB.1 e.symm)).trans ((B6.out.block _ (heap_lt HC.out)).trans HC.out)
    have R8 := (hg8.block _ (Nat.lt_of_lt_of_le (heap_lt HR.out) B6.out.size) (fun e => NB.2 e.symm)).trans ((B6.out.block _ (heap_lt HR.out)).trans HR.out)
    have ho := ho8
    unfold OwnS at ho
    rw [hl8] at ho
    obtain ⟨g, cap, rfl⟩ := ownsRow_succ ho
    have HO8 := Lib.hid (show OwnS w8 w.heap.size (.slice (some ⟨g, 0, none⟩) (n + 1) cap) L8 from ho8)
    have hcap := Lib.hid (twin_cap HO8.out)
    have hcp : n + 1 ≤ cap := hcap.out.1
    have GN : g ≠ w.heap.size ∧ g ≠ w1.heap.size := by
      obtain ⟨-, c, hc⟩ := rows_blk ho rfl
      exact ⟨fun e => by subst e; rw [C8] at hc; simp at hc, fun e => by subst e; rw [R8] at hc; simp at hc⟩
    have HC8 := Lib.hid C8
    have HR8 := Lib.hid R8
    have HGN := Lib.hid GN
    have EL := Lib.hid hL8
    clear ho ho8 hg8 hl8 hL8 NB C8 R8 GN
    go_wp2_with fail
    refine ⟨⟨⟨_, cell_of_row _ _ 2 _ _ _ HC8.out⟩, rfl⟩, ?_⟩
    refine wpMix_reads 2 _ (by kernel_rfl) ?_
    simp only [List.take_succ_cons, List.take_zero, List.drop_succ_cons, List.drop_zero]
    repeat (go_big_quiet_step (fail))
    refine wpQuiet_nil ?_
    refine wpMix_nil ?_
    clear hne qs0
    change wpList _ _ _ _ _ _
    have c2 := cell_of_row _ _ 2 _ _ _ HC8.out
    have cf2 := frozen_of_row _ _ 2 _ _ HC8.out
    have c9 := set3_2 HC8.out (.slice (some ⟨g, 0, none⟩) n cap)
    have r9 := (set_off (i := 2) (fun e => HLT.out e) (.slice (some ⟨g, 0, none⟩) n cap)).trans HR8.out
    obtain ⟨w9, hw9⟩ : ∃ w9, w8.setCell ⟨w.heap.size, 2, none⟩ (.slice (some ⟨g, 0, none⟩) n cap) = w9 := ⟨_, rfl⟩
    have O9 := Lib.hid (show OwnS w9 w.heap.size (.slice (some ⟨g, 0, none⟩) (n + 1) cap) L8 by rw [← hw9]; exact rows_congr HO8.out fun k hk => set_off (fun e => HGN.out.1 ((Option.some.inj hk).trans e.symm)) _)
    have W9 := Lib.hid (show Below w.heap.size w w9 by rw [← hw9]; exact W8.out.setCell (p := ⟨w.heap.size, 2, none⟩) (Nat.le_refl _) _)
    rw [hw9] at c9 r9
    have HR9 := Lib.hid r9
    have y0 := cell_of_row _ _ 0 _ _ _ c9
    have y1 := cell_of_row _ _ 1 _ _ _ c9
    have y2 := cell_of_row _ _ 2 _ _ _ c9
    have r0 := cell_of_row _ _ 0 _ _ _ r9
    have r1 := cell_of_row _ _ 1 _ _ _ r9
    have r2 := cell_of_row _ _ 2 _ _ _ r9
    have g0 := frozen_of_row _ _ 0 _ _ r9
    have g1 := frozen_of_row _ _ 1 _ _ r9
    have g2 := frozen_of_row _ _ 2 _ _ r9
    clear c9 r9
    go_wp2_with fail
    refine bodyPost_ret (results_cat1 rfl _ _ w1.heap.size _ _ _ rfl (cell_of_row _ _ 0 _ _ _ (put3 HR9.out _ _ _)) (cell_of_row _ _ 1 _ _ _ (put3 HR9.out _ _ _)) (cell_of_row _ _ 2 _ _ _ (put3 HR9.out _ _ _))) rfl ?_
    refine ⟨g, cap, rfl, hcap.out.1, ?_, put3_below W9.out (by have := HL1.out; omega) _ _ _⟩
    rw [EL.out]
    exact rows_congr O9.out fun k hk => put3_off (fun e => HGN.out.2 ((Option.some.inj hk).trans e.symm)) _ _ _
  · simp only [pick, List.map_cons, List.map_nil, List.getD_cons_zero, List.getD_cons_succ]
    refine wpMix_act rfl ?_ rfl
    go_wp2_with fail
    refine ⟨⟨⟨_, BC.out (below_drew w2)⟩, rfl⟩, ?_⟩
    refine wpMix_nil ?_
    unfold planQ wpPlan
    dsimp only
    refine ⟨?_, ?_⟩
    · simp only [pick, List.map_cons, List.map_nil, List.getD_cons_zero, List.getD_cons_succ]
      refine wpMix_act rfl ?_ rfl
      go_wp2_with (refine wpList_append_segs (o := ⟨some 5, _, _, _, _, _⟩) rfl _ _ rfl w.heap.size (.slice none 0 0) [] rfl (OwnS.nil _ _) ao n ca L rfl HN.out.symm (HS.out.below (below_drew w2)) HNil.out LEN.out (by have := HB2.out.size; exact this) ?_)
      intro v5 w5 ho5 hg5
      have B5 := Lib.hid (show Below w2.heap.size w2 w5 from (below_drew w2).grown hg5 (below_drew w2).size (fun k hk => by cases hk))
      have O5 := Lib.hid (show OwnS w5 w.heap.size v5 L from ho5)
      clear ho5 hg5
      go_wp2_with fail
      refine ⟨⟨⟨_, BC.out B5.out⟩, rfl⟩, ?_⟩
      refine wpMix_act rfl ?_ rfl
      go_wp2_with fail
      have B6 := Lib.hid (below_trans B5.out (below_alloc w5 (.cells #[.int .i64 (-7), .int .i64 0, .int .u32 0, .int .i64 0, .int .i64 0] 53)))
      have SG := Lib.hid (seg_alloc w5 m7 m7_ok 53)
      have SZ6 := Lib.hid (Nat.le_trans HB2.out.size B6.out.size)
      have SEG6 := Lib.hid (HS.out.below B6.out)
      have O5K := Lib.hid (O5.out.keep (below_alloc w5 (.cells #[.int .i64 (-7), .int .i64 0, .int .u32 0, .int .i64 0, .int .i64 0] 53)))
      refine ⟨⟨⟨_, BC.out B6.out⟩, rfl⟩, ?_⟩
      refine wpMix_act rfl ?_ rfl
      go_wp2_with (refine wpList_append_segs (o := ⟨some 8, _, _, _, _, _⟩) rfl _ _ rfl w.heap.size v5 L rfl O5K.out (some ⟨w5.heap.size, 0, none⟩) 1 1 [m7] rfl rfl SG.out (fun e => by cases e) LEN1.out (Nat.le_trans HB2.out.size B6.out.size) ?_)
      intro v8 w8 ho8 hg8
      obtain ⟨L8, hL8⟩ : ∃ L8, L ++ [m7] = L8 := ⟨_, rfl⟩
      have hl8 : L8.length = n + 1 := by rw [← hL8, List.length_append, HN.out]; rfl
      rw [hL8] at ho8
      have W8 := Lib.hid (show Below w.heap.size w w8 from (below_trans HB2.out B6.out).grown hg8 (below_trans HB2.out B6.out).size (fun k hk => by have := (rows_blk O5K.out hk).1; omega))
      have NB : v5.ownBlock ≠ some w.heap.size ∧ v5.ownBlock ≠ some w1.heap.size := ⟨fun e => by
        obtain ⟨-, c, hc⟩ := rows_blk O5K.out e
        rw [(B6.out.block _ (heap_lt HC.out)).trans HC.out] at hc
        simp at hc, fun e => by
        obtain ⟨-, c, hc⟩ := rows_blk O5K.out e
        rw [(B6.out.block _ (heap_lt HR.out)).trans HR.out] at hc
        simp at hc⟩
      have C8 := (hg8.block _ (Nat.lt_of_lt_of_le (heap_lt HC.out) B6.out.size) (fun e => NB.1 e.symm)).trans ((B6.out.block _ (heap_lt HC.out)).trans HC.out)
      have R8 := (hg8.block _ (Nat.lt_of_lt_of_le (heap_lt HR.out) B6.out.size) (fun e => NB.2 e.symm)).trans ((B6.out.block _ (heap_lt HR.out)).trans HR.out)
      have ho := ho8
      unfold OwnS at ho
      rw [hl8] at ho
      obtain ⟨g, cap, rfl⟩ := ownsRow_succ ho
      have HO8 := Lib.hid (show OwnS w8 w.heap.size (.slice (some ⟨g, 0, none⟩) (n + 1) cap) L8 from ho8)
      have hcap := Lib.hid (twin_cap HO8.out)
      have hcp : n + 1 ≤ cap := hcap.out.1
      have GN : g ≠ w.heap.size ∧ g ≠ w1.heap.size := by
        obtain ⟨-, c, hc⟩ := rows_blk ho rfl
        exact ⟨fun e => by subst e; rw [C8] at hc; simp at hc, fun e => by subst e; rw [R8] at hc; simp at hc⟩
      have HC8 := Lib.hid C8
      have HR8 := Lib.hid R8
      have HGN := Lib.hid GN
      have EL := Lib.hid hL8
      clear ho ho8 hg8 hl8 hL8 NB C8 R8 GN
      go_wp2_with fail
      refine ⟨⟨⟨_, cell_of_row _ _ 2 _ _ _ HC8.out⟩, rfl⟩, ?_⟩
      refine wpMix_reads 2 _ (by kernel_rfl) ?_
      simp only [List.take_succ_cons, List.take_zero, List.drop_succ_cons, List.drop_zero]
      repeat (go_big_quiet_step (fail))
      refine wpQuiet_nil ?_
      refine wpMix_nil ?_
      clear hne qs0
      change wpList _ _ _ _ _ _
      have c2 := cell_of_row _ _ 2 _ _ _ HC8.out
      have cf2 := frozen_of_row _ _ 2 _ _ HC8.out
      have c9 := set3_2 HC8.out (.slice (some ⟨g, 0, none⟩) n cap)
      have r9 := (set_off (i := 2) (fun e => HLT.out e) (.slice (some ⟨g, 0, none⟩) n cap)).trans HR8.out
      obtain ⟨w9, hw9⟩ : ∃ w9, w8.setCell ⟨w.heap.size, 2, none⟩ (.slice (some ⟨g, 0, none⟩) n cap) = w9 := ⟨_, rfl⟩
      have O9 := Lib.hid (show OwnS w9 w.heap.size (.slice (some ⟨g, 0, none⟩) (n + 1) cap) L8 by rw [← hw9]; exact rows_congr HO8.out fun k hk => set_off (fun e => HGN.out.1 ((Option.some.inj hk).trans e.symm)) _)
      have W9 := Lib.hid (show Below w.heap.size w w9 by rw [← hw9]; exact W8.out.setCell (p := ⟨w.heap.size, 2, none⟩) (Nat.le_refl _) _)
      rw [hw9] at c9 r9
      have HR9 := Lib.hid r9
      have y0 := cell_of_row _ _ 0 _ _ _ c9
      have y1 := cell_of_row _ _ 1 _ _ _ c9
      have y2 := cell_of_row _ _ 2 _ _ _ c9
      have r0 := cell_of_row _ _ 0 _ _ _ r9
      have r1 := cell_of_row _ _ 1 _ _ _ r9
      have r2 := cell_of_row _ _ 2 _ _ _ r9
      have g0 := frozen_of_row _ _ 0 _ _ r9
      have g1 := frozen_of_row _ _ 1 _ _ r9
      have g2 := frozen_of_row _ _ 2 _ _ r9
      clear c9 r9
      go_wp2_with fail
      refine bodyPost_ret (results_cat1 rfl _ _ w1.heap.size _ _ _ rfl (cell_of_row _ _ 0 _ _ _ (put3 HR9.out _ _ _)) (cell_of_row _ _ 1 _ _ _ (put3 HR9.out _ _ _)) (cell_of_row _ _ 2 _ _ _ (put3 HR9.out _ _ _))) rfl ?_
      refine ⟨g, cap, rfl, hcap.out.1, ?_, put3_below W9.out (by have := HL1.out; omega) _ _ _⟩
      rw [EL.out]
      exact rows_congr O9.out fun k hk => put3_off (fun e => HGN.out.2 ((Option.some.inj hk).trans e.symm)) _ _ _
    · simp only [pick, List.map_cons, List.map_nil, List.getD_cons_zero, List.getD_cons_succ]
      refine wpMix_act rfl ?_ rfl
      go_wp2_with fail
      have B6 := Lib.hid (below_trans (below_drew w2) (below_alloc w2.drew (.cells #[.int .i64 (-7), .int .i64 0, .int .u32 0, .int .i64 0, .int .i64 0] 53)))
      have SG := Lib.hid (seg_alloc w2.drew m7 m7_ok 53)
      have SZ6 := Lib.hid (Nat.le_trans HB2.out.size B6.out.size)
      have SEG6 := Lib.hid (HS.out.below B6.out)
      skip
      refine ⟨⟨⟨_, BC.out B6.out⟩, rfl⟩, ?_⟩
      refine wpMix_act rfl ?_ rfl
      go_wp2_with (refine wpList_append_segs (o := ⟨some 5, _, _, _, _, _⟩) rfl _ _ rfl w.heap.size (.slice none 0 0) [] rfl (OwnS.nil _ _) ao n ca L rfl HN.out.symm SEG6.out HNil.out LEN.out SZ6.out ?_)
      intro v5 w5 ho5 hg5
      have B5g := (OwnS.nil (w2.drew.alloc (.cells #[.int .i64 (-7), .int .i64 0, .int .u32 0, .int .i64 0, .int .i64 0] 53)) 0).below hg5 (Nat.zero_le _) (Nat.zero_le _)
      have SG5 := Lib.hid (SG.out.below ((Below.refl _ (w2.drew.alloc (.cells #[.int .i64 (-7), .int .i64 0, .int .u32 0, .int .i64 0, .int .i64 0] 53))).grown hg5 (Nat.le_refl _) (fun k hk => by cases hk)))
      clear B5g
      have B5 := Lib.hid (show Below w2.heap.size w2 w5 from B6.out.grown hg5 B6.out.size (fun k hk => by cases hk))
      have O5 := Lib.hid (show OwnS w5 w.heap.size v5 L from ho5)
      clear ho5 hg5
      go_wp2_with fail
      refine ⟨⟨⟨_, BC.out B5.out⟩, rfl⟩, ?_⟩
      refine wpMix_act rfl ?_ rfl
      go_wp2_with (refine wpList_append_segs (o := ⟨some 8, _, _, _, _, _⟩) rfl _ _ rfl w.heap.size v5 L rfl O5.out (some ⟨w2.heap.size, 0, none⟩) 1 1 [m7] rfl rfl SG5.out (fun e => by cases e) LEN1.out (Nat.le_trans HB2.out.size B5.out.size) ?_)
      intro v8 w8 ho8 hg8
      obtain ⟨L8, hL8⟩ : ∃ L8, L ++ [m7] = L8 := ⟨_, rfl⟩
      have hl8 : L8.length = n + 1 := by rw [← hL8, List.length_append, HN.out]; rfl
      rw [hL8] at ho8
      have W8 := Lib.hid (show Below w.heap.size w w8 from (below_trans HB2.out B5.out).grown hg8 (below_trans HB2.out B5.out).size (fun k hk => by have := (rows_blk O5.out hk).1; omega))
      have NB : v5.ownBlock ≠ some w.heap.size ∧ v5.ownBlock ≠ some w1.heap.size := ⟨fun e => by
        obtain ⟨-, c, hc⟩ := rows_blk O5.out e
        rw [(B5.out.block _ (heap_lt HC.out)).trans HC.out] at hc
        simp at hc, fun e => by
        obtain ⟨-, c, hc⟩ := rows_blk O5.out e
        rw [(B5.out.block _ (heap_lt HR.out)).trans HR.out] at hc
        simp at hc⟩
      have C8 := (hg8.block _ (Nat.lt_of_lt_of_le (heap_lt HC.out) B5.out.size) (fun e => NB.1 e.symm)).trans ((B5.out.block _ (heap_lt HC.out)).trans HC.out)
      have R8 := (hg8.block _ (Nat.lt_of_lt_of_le (heap_lt HR.out) B5.out.size) (fun e => NB.2 e.symm)).trans ((B5.out.block _ (heap_lt HR.out)).trans HR.out)
      have ho := ho8
      unfold OwnS at ho
      rw [hl8] at ho
      obtain ⟨g, cap, rfl⟩ := ownsRow_succ ho
      have HO8 := Lib.hid (show OwnS w8 w.heap.size (.slice (some ⟨g, 0, none⟩) (n + 1) cap) L8 from ho8)
      have hcap := Lib.hid (twin_cap HO8.out)
      have hcp : n + 1 ≤ cap := hcap.out.1
      have GN : g ≠ w.heap.size ∧ g ≠ w1.heap.size := by
        obtain ⟨-, c, hc⟩ := rows_blk ho rfl
        exact ⟨fun e => by subst e; rw [C8] at hc; simp at hc, fun e => by subst e; rw [R8] at hc; simp at hc⟩
      have HC8 := Lib.hid C8
      have HR8 := Lib.hid R8
      have HGN := Lib.hid GN
      have EL := Lib.hid hL8
      clear ho ho8 hg8 hl8 hL8 NB C8 R8 GN
      go_wp2_with fail
      refine ⟨⟨⟨_, cell_of_row _ _ 2 _ _ _ HC8.out⟩, rfl⟩, ?_⟩
      refine wpMix_reads 2 _ (by kernel_rfl) ?_
      simp only [List.take_succ_cons, List.take_zero, List.drop_succ_cons, List.drop_zero]
      repeat (go_big_quiet_step (fail))
      refine wpQuiet_nil ?_
      refine wpMix_nil ?_
      clear hne qs0
      change wpList _ _ _ _ _ _
      have c2 := cell_of_row _ _ 2 _ _ _ HC8.out
      have cf2 := frozen_of_row _ _ 2 _ _ HC8.out
      have c9 := set3_2 HC8.out (.slice (some ⟨g, 0, none⟩) n cap)
      have r9 := (set_off (i := 2) (fun e => HLT.out e) (.slice (some ⟨g, 0, none⟩) n cap)).trans HR8.out
      obtain ⟨w9, hw9⟩ : ∃ w9, w8.setCell ⟨w.heap.size, 2, none⟩ (.slice (some ⟨g, 0, none⟩) n cap) = w9 := ⟨_, rfl⟩
      have O9 := Lib.hid (show OwnS w9 w.heap.size (.slice (some ⟨g, 0, none⟩) (n + 1) cap) L8 by rw [← hw9]; exact rows_congr HO8.out fun k hk => set_off (fun e => HGN.out.1 ((Option.some.inj hk).trans e.symm)) _)
      have W9 := Lib.hid (show Below w.heap.size w w9 by rw [← hw9]; exact W8.out.setCell (p := ⟨w.heap.size, 2, none⟩) (Nat.le_refl _) _)
      rw [hw9] at c9 r9
      have HR9 := Lib.hid r9
      have y0 := cell_of_row _ _ 0 _ _ _ c9
      have y1 := cell_of_row _ _ 1 _ _ _ c9
      have y2 := cell_of_row _ _ 2 _ _ _ c9
      have r0 := cell_of_row _ _ 0 _ _ _ r9
      have r1 := cell_of_row _ _ 1 _ _ _ r9
      have r2 := cell_of_row _ _ 2 _ _ _ r9
      have g0 := frozen_of_row _ _ 0 _ _ r9
      have g1 := frozen_of_row _ _ 1 _ _ r9
      have g2 := frozen_of_row _ _ 2 _ _ r9
      clear c9 r9
      go_wp2_with fail
      refine bodyPost_ret (results_cat1 rfl _ _ w1.heap.size _ _ _ rfl (cell_of_row _ _ 0 _ _ _ (put3 HR9.out _ _ _)) (cell_of_row _ _ 1 _ _ _ (put3 HR9.out _ _ _)) (cell_of_row _ _ 2 _ _ _ (put3 HR9.out _ _ _))) rfl ?_
      refine ⟨g, cap, rfl, hcap.out.1, ?_, put3_below W9.out (by have := HL1.out; omega) _ _ _⟩
      rw [EL.out]
      exact rows_congr O9.out fun k hk => put3_off (fun e => HGN.out.2 ((Option.some.inj hk).trans e.symm)) _ _ _
end Go.Proofs.Ytmkljmljbbijeaa

/-! The walk of flumelaw10.kept. -/
namespace Go.Proofs.Ytmkljmljbbijeaa
open Go.RowKit

structure KeptR (tb cb g : Nat) (gen first : Int) (n cap : Nat) (ao : Option Addr) (ca : Nat) (w : World) : Prop where
  t0 : w.cell? ⟨tb, 0, none⟩ = some (.int .i64 gen)
  t1 : w.cell? ⟨tb, 1, none⟩ = some (.int .i64 first)
  t2 : w.cell? ⟨tb, 2, none⟩ = some (.slice (some ⟨g, 0, none⟩) n cap)
  c0 : w.cell? ⟨cb, 0, none⟩ = some (.int .i64 gen)
  c1 : w.cell? ⟨cb, 1, none⟩ = some (.int .i64 first)
  c2 : w.cell? ⟨cb, 2, none⟩ = some (.slice ao n ca)
  mark : w.cell? ⟨g, n * 5, none⟩ = some (.int .i64 (-7))
theorem KeptR.below {tb cb g : Nat} {gen first : Int} {n cap : Nat} {ao : Option Addr} {ca : Nat} {w w' : World} (h : KeptR tb cb g gen first n cap ao ca w) (hb : Below w.heap.size w w') : KeptR tb cb g gen first n cap ao ca w' :=
  ⟨cell_keep hb h.t0, cell_keep hb h.t1, cell_keep hb h.t2, cell_keep hb h.c0, cell_keep hb h.c1, cell_keep hb h.c2, cell_keep hb h.mark⟩

set_option maxRecDepth 100000 in
set_option maxHeartbeats 4000000 in
theorem kept_walk (gen first : Int) (g n cap ca : Nat) (ao : Option Addr) (L : List SegV) (w : World) (hn : L.length = n) (hl : n ≤ 100000) (hcap : n + 1 ≤ cap)
    (hT : CatAt w (.agg #[.int .i64 gen, .int .i64 first, .slice (some ⟨g, 0, none⟩) n cap]) ⟨gen, first, L⟩) (hA : CatAt w (.agg #[.int .i64 gen, .int .i64 first, .slice ao n ca]) ⟨gen, first, L⟩) (hm : w.cell? ⟨g, n * 5, none⟩ = some (.int .i64 (-7))) :
    Calls Try.prog 29 #[.agg #[.int .i64 gen, .int .i64 first, .slice (some ⟨g, 0, none⟩) n cap], .agg #[.int .i64 gen, .int .i64 first, .slice ao n ca]] w fun e w' => e = .returned (.bool true) ∧ Below w.heap.size w w' := by
  have b1 := below_alloc w (.cells #[.int .i64 gen, .int .i64 first, .slice (some ⟨g, 0, none⟩) n cap] 29)
  have hn1 := heap_alloc_new w (.cells #[.int .i64 gen, .int .i64 first, .slice (some ⟨g, 0, none⟩) n cap] 29)
  obtain ⟨w1, hw1⟩ : ∃ w1, w.alloc (.cells #[.int .i64 gen, .int .i64 first, .slice (some ⟨g, 0, none⟩) n cap] 29) = w1 := ⟨_, rfl⟩
  rw [hw1] at b1 hn1
  have b2 := below_alloc w1 (.cells #[.int .i64 gen, .int .i64 first, .slice ao n ca] 29)
  have hn2 := heap_alloc_new w1 (.cells #[.int .i64 gen, .int .i64 first, .slice ao n ca] 29)
  obtain ⟨w2, hw2⟩ : ∃ w2, w1.alloc (.cells #[.int .i64 gen, .int .i64 first, .slice ao n ca] 29) = w2 := ⟨_, rfl⟩
  rw [hw2] at b2 hn2
  have hn12 := (b2.block _ (heap_lt hn1)).trans hn1
  have HB2 := Lib.hid (below_trans b1 b2)
  have HT := Lib.hid (hT.below HB2.out)
  have HA := Lib.hid (hA.below HB2.out)
  have HN := Lib.hid hn
  have KR := Lib.hid (show KeptR w.heap.size w1.heap.size g gen first n cap ao ca w2 from ⟨cell_of_row _ _ 0 _ _ _ hn12, cell_of_row _ _ 1 _ _ _ hn12, cell_of_row _ _ 2 _ _ _ hn12, cell_of_row _ _ 0 _ _ _ hn2, cell_of_row _ _ 1 _ _ _ hn2, cell_of_row _ _ 2 _ _ _ hn2, cell_keep HB2.out hm⟩)
  have q0 : ∀ p : In (KeptR w.heap.size w1.heap.size g gen first n cap ao ca), p.w.cell? ⟨w.heap.size, 0, none⟩ = some (.int .i64 gen) := fun p => p.h.t0
  have q1 : ∀ p : In (KeptR w.heap.size w1.heap.size g gen first n cap ao ca), p.w.cell? ⟨w.heap.size, 1, none⟩ = some (.int .i64 first) := fun p => p.h.t1
  have q2 : ∀ p : In (KeptR w.heap.size w1.heap.size g gen first n cap ao ca), p.w.cell? ⟨w.heap.size, 2, none⟩ = some (.slice (some ⟨g, 0, none⟩) n cap) := fun p => p.h.t2
  have q3 : ∀ p : In (KeptR w.heap.size w1.heap.size g gen first n cap ao ca), p.w.cell? ⟨w1.heap.size, 0, none⟩ = some (.int .i64 gen) := fun p => p.h.c0
  have q4 : ∀ p : In (KeptR w.heap.size w1.heap.size g gen first n cap ao ca), p.w.cell? ⟨w1.heap.size, 1, none⟩ = some (.int .i64 first) := fun p => p.h.c1
  have q5 : ∀ p : In (KeptR w.heap.size w1.heap.size g gen first n cap ao ca), p.w.cell? ⟨w1.heap.size, 2, none⟩ = some (.slice ao n ca) := fun p => p.h.c2
  have q6 : ∀ p : In (KeptR w.heap.size w1.heap.size g gen first n cap ao ca), p.w.cell? ⟨g, n * 5, none⟩ = some (.int .i64 (-7)) := fun p => p.h.mark
  clear b1 b2 hn1 hn2 hn12 hT hA hn hm
  go_enter Try.func29, Try.ntmps29
  go_wp2_with fail
  have s1 : IntKind.i64.wrap ((n : Int) + 1) = (n : Int) + 1 := IntWalk.i64_in _ (by omega)
  have i1 : (n : Int) < (n : Int) + 1 := by omega
  have i2 : 0 ≤ (n : Int) + 1 := by omega
  refine wp_region_mixed [0, 1, 2, 3, 4, 5, 6, 7, 8, 9, 10, 11, 12, 13, 14, 15, 16, 17, 18, 19] (KeptR w.heap.size w1.heap.size g gen first n cap ao ca) (by kernel_rfl) (by kernel_rfl) (by intro c a d v w h; cases d <;> exact h) (KR.out.below (below_drew _)) ?_
  intro hne
  simp only [pick, List.map_cons, List.map_nil, List.getD_cons_zero, List.getD_cons_succ]
  refine wpMix_reads 2 _ (by kernel_rfl) ?_
  simp only [List.take_succ_cons, List.take_zero, List.drop_succ_cons, List.drop_zero]
  repeat (go_big_quiet_step (fail))
  refine wpQuiet_nil ?_
  refine wpMix_act rfl ?_ rfl
  go_wp2_with fail
  refine (cat_eq gen first gen first (some ⟨g, 0, none⟩) ao n n cap ca L L w2.drew HN.out HN.out (HT.out.below (below_drew _)) (HA.out.below (below_drew _)) true (by simp)).mono ?_
  rintro e w5 ⟨rfl, hb5⟩
  have B5 := Lib.hid (below_trans (below_drew w2) hb5)
  clear hb5
  go_wp2_with fail
  refine ⟨⟨⟨_, KR.out.below B5.out⟩, rfl⟩, ?_⟩
  refine wpMix_reads 17 _ (by kernel_rfl) ?_
  simp only [List.take_succ_cons, List.take_zero, List.drop_succ_cons, List.drop_zero]
  repeat (go_big_quiet_step (fail))
  refine wpQuiet_nil ?_
  refine wpMix_nil ?_
  clear hne q0 q1 q2 q3 q4 q5 q6 s1 i1 i2
  go_wp2_with fail
  go_ret
  exact ⟨rfl, below_trans HB2.out B5.out⟩
end Go.Proofs.Ytmkljmljbbijeaa

/-! The walk of flumelaw10.spoil. -/
namespace Go.Proofs.Ytmkljmljbbijeaa
open Go.RowKit

def m9 : SegV := ⟨-9, 0, 0#32, 0, 0⟩
theorem m9_ok : SegOk m9 := ⟨⟨by decide, by decide⟩, ⟨by decide, by decide⟩, ⟨by decide, by decide⟩, ⟨by decide, by decide⟩⟩
theorem flat5_set (s : SegV) : ∀ (L : List SegV) (i : Nat), i < L.length → (((((L.flatMap segL).set (i * 5) (.int .i64 s.num)).set (i * 5 + 1) (.int .i64 s.base)).set (i * 5 + 2) (.int .u32 (bv s.seed))).set (i * 5 + 3) (.int .i64 s.end_)).set (i * 5 + 4) (.int .i64 s.size) = (L.set i s).flatMap segL
  | [], i, h => absurd h (by simp)
  | t :: L, 0, _ => by simp [segL]
  | t :: L, i + 1, h => by
    have := flat5_set s L i (by simpa using h)
    have hl : (segL t).length = 5 := by simp [segL]
    have e : ∀ j, (i + 1) * 5 + j - (segL t).length = i * 5 + j := fun j => by rw [hl]; omega
    have e0 : (i + 1) * 5 - (segL t).length = i * 5 := by rw [hl]; omega
    rw [List.flatMap_cons, List.set_cons_succ, List.flatMap_cons, List.set_append_right _ _ (by rw [hl]; omega), List.set_append_right _ _ (by rw [hl]; omega), List.set_append_right _ _ (by rw [hl]; omega), List.set_append_right _ _ (by rw [hl]; omega), List.set_append_right _ _ (by rw [hl]; omega), e0, e, e, e, e, this]
def set5 (w : World) (g o : Nat) (s : SegV) : World := ((((w.setCell ⟨g, o, none⟩ (.int .i64 s.num)).setCell ⟨g, o + 1, none⟩ (.int .i64 s.base)).setCell ⟨g, o + 2, none⟩ (.int .u32 (bv s.seed))).setCell ⟨g, o + 3, none⟩ (.int .i64 s.end_)).setCell ⟨g, o + 4, none⟩ (.int .i64 s.size)
theorem OwnS.set5 {w : World} {base g n cap : Nat} {L : List SegV} (hn : L.length = n) (h : OwnS w base (.slice (some ⟨g, 0, none⟩) n cap) L) {i : Nat} (hi : i < L.length) (s : SegV) : OwnS (set5 w g (i * 5) s) base (.slice (some ⟨g, 0, none⟩) n cap) (L.set i s) := by
  subst hn
  have h1 := ownsRow_set h (.int .i64 s.num) (i := i * 5)
  have h2 := ownsRow_set h1 (.int .i64 s.base) (i := i * 5 + 1)
  have h3 := ownsRow_set h2 (.int .u32 (bv s.seed)) (i := i * 5 + 2)
  have h4 := ownsRow_set h3 (.int .i64 s.end_) (i := i * 5 + 3)
  have h5 := ownsRow_set h4 (.int .i64 s.size) (i := i * 5 + 4)
  rw [flat5_set s L i hi] at h5
  unfold OwnS
  rw [List.length_set]
  exact h5
theorem set5_off {w : World} {g o n : Nat} {s : SegV} (h : g ≠ n) : (set5 w g o s).heap[n]? = w.heap[n]? := by
  unfold Go.Proofs.Ytmkljmljbbijeaa.set5
  rw [set_off h, set_off h, set_off h, set_off h, set_off h]
theorem set5_below {n g o : Nat} {w W : World} {s : SegV} (h : Below n w W) (hb : n ≤ g) : Below n w (set5 W g o s) :=
  ((((h.setCell (p := ⟨g, o, none⟩) hb _).setCell (p := ⟨g, o + 1, none⟩) hb _).setCell (p := ⟨g, o + 2, none⟩) hb _).setCell (p := ⟨g, o + 3, none⟩) hb _).setCell (p := ⟨g, o + 4, none⟩) hb _
theorem ok_set {L : List SegV} (h : OkL L) {s : SegV} (hs : SegOk s) (i : Nat) : OkL (L.set i s) := fun j hj => by
  rw [List.length_set] at hj
  by_cases e : i = j
  · subst e
    have : nthS (L.set i s) i = s := by simp [nthS, hj]
    rw [this]; exact hs
  · have : nthS (L.set i s) j = nthS L j := by simp [nthS, e]
    rw [this]; exact h j hj
/-- A catalog that is being spoiled. -/
structure Spoil (o0 : Option Nat) (w : World) (base cb : Nat) (gen first : Int) (ao : Option Addr) (n ca : Nat) (L : List SegV) (wr : World) : Prop where
  len : L.length = n
  ok : OkL L
  own : OwnS wr base (.slice ao n ca) L
  box : wr.heap[cb]? = some (.cells #[.int .i64 gen, .int .i64 first, .slice ao n ca] 29 (0, 0))
  low : Below base w wr
  who : ∀ j, (Value.slice ao n ca).ownBlock = some j → o0 = some j ∨ w.heap.size ≤ j
  far : ∀ q c, w.heap[q]? = some c → o0 ≠ some q → wr.heap[q]? = some c
theorem Spoil.off {o0 : Option Nat} {w : World} {base cb : Nat} {gen first : Int} {ao : Option Addr} {n ca : Nat} {L : List SegV} {wr : World} (h : Spoil o0 w base cb gen first ao n ca L wr) {q : Nat} {c : Obj} (hq : w.heap[q]? = some c) (ho : o0 ≠ some q) : (Value.slice ao n ca).ownBlock ≠ some q := fun e => by
  rcases h.who q e with h1 | h1
  · exact ho h1
  · have := heap_lt hq; omega
theorem Spoil.ne {o0 : Option Nat} {w : World} {base cb : Nat} {gen first : Int} {g n ca : Nat} {L : List SegV} {wr : World} (h : Spoil o0 w base cb gen first (some ⟨g, 0, none⟩) n ca L wr) : g ≠ cb := fun e => by
  obtain ⟨-, c, hc⟩ := rows_blk h.own rfl
  rw [e, h.box] at hc
  simp at hc
theorem below_trans_to {base : Nat} {w w1 w2 : World} (hb : base ≤ w.heap.size) (h : Below base w w1) (k : Below w1.heap.size w1 w2) : Below base w w2 := h.trans (k.mono (Nat.le_trans hb h.size))
/-- Append: segments that are there, and where the answer lies. -/
theorem wpList_append_segs_at {w : World} {ops : Array Oper} {rest : List Oper} {o : Oper} {a : Act} {Q : Exit → Act → World → Prop} (hgd : o.guard = none) (s x : Operand)
    (ho : o.op = .call { callee := .builtin .append, args := #[s, x], argTypes := #[27, 27] })
    (base : Nat) (v : Value) (A : List SegV) (hs : a.eval s = v) (hown : OwnS w base v A)
    (b off n cap : Nat) (B : List SegV) (hx : a.eval x = .slice (some ⟨b, off, none⟩) n cap) (hn : n = B.length) (hb : SegsAt w (some ⟨b, off, none⟩) B)
    (hlen : A.length + B.length ≤ 3518437208883) (hbase : base ≤ w.heap.size)
    (h : ∀ v' w', OwnS w' base v' (A ++ B) → w.grownBy w' v.ownBlock → (v'.ownBlock = v.ownBlock ∨ v'.ownBlock = some w.heap.size) → wpList Try.prog ops Q rest (a.put o.dst v') w') : wpList Try.prog ops Q (o :: rest) a w := by
  subst hn
  obtain ⟨i, hi, hz0, hz1, hz2⟩ := info_parts Try.infoSeg
  refine wpList_append_own_at (w := w) hgd s x 27 ho base 53 i _ 5 40 Try.underlying27 hi hz0 hz1 hz2 rfl (by decide) v A.length (A.flatMap segL) hs hown _ B.length cap (B.flatMap segL) hx (flat5_length B) (segs_news hb) (flat5_one B)
    (by simp only [maxLen]; omega) (by omega) hbase ?_
  intro v' w' h1 h2 h3 h4
  refine h v' w' ?_ h2 h4
  unfold OwnS
  rw [List.length_append, flat5_append]
  exact h1
def lenAt (w : World) (b : Nat) : Nat := match w.cell? ⟨b, 2, none⟩ with
  | some (.slice _ n _) => n
  | _ => 0

set_option maxRecDepth 100000 in
set_option maxHeartbeats 4000000 in
theorem spoil_walk (gen first : Int) (ao : Option Addr) (n ca base : Nat) (L : List SegV) (w : World) (hn : L.length = n) (hl : n ≤ 100000) (hb : base ≤ w.heap.size) (hO : OwnS w base (.slice ao n ca) L) (hok : OkL L) :
    Calls Try.prog 30 #[.agg #[.int .i64 gen, .int .i64 first, .slice ao n ca]] w fun e w' => e = .returned (.tuple #[]) ∧ Below base w w' ∧ ∀ q c, w.heap[q]? = some c → (Value.slice ao n ca).ownBlock ≠ some q → w'.heap[q]? = some c := by
  have b1 := below_alloc w (.cells #[.int .i64 gen, .int .i64 first, .slice ao n ca] 29)
  have hn1 := heap_alloc_new w (.cells #[.int .i64 gen, .int .i64 first, .slice ao n ca] 29)
  obtain ⟨w1, hw1⟩ : ∃ w1, w.alloc (.cells #[.int .i64 gen, .int .i64 first, .slice ao n ca] 29) = w1 := ⟨_, rfl⟩
  rw [hw1] at b1 hn1
  obtain ⟨o0, ho0⟩ : ∃ o0, (Value.slice ao n ca).ownBlock = o0 := ⟨_, rfl⟩
  rw [ho0]
  have S1 := Lib.hid (show Spoil o0 w base w.heap.size gen first ao n ca L w1 from ⟨hn, hok, hO.keep b1, hn1, b1.mono hb, fun j hj => .inl (ho0.symm.trans hj), fun q c hq _ => (b1.block q (heap_lt hq)).trans hq⟩)
  have HBS := Lib.hid hb
  have CM : Hid (ca ≤ 9223372036854775807 ∧ n ≤ ca) := Lib.hid (by
    rcases hO.2 with ⟨h0, h1⟩ | ⟨g', cap', cur, hv, hb, hc, hle, hm, -⟩
    · injection h0 with _ h2 h3; rw [h2, h3]; omega
    · injection hv with _ h2 h3
      unfold maxLen at hm
      rw [hn] at hle
      omega)
  clear b1 hn1 hn hO hok hb ho0
  go_enter Try.func30, Try.ntmps30
  go_wp2_with fail
  go_loopw [2] (fun i wr => ∃ (k : Nat) (L' : List SegV), k ≤ n ∧ i = .int .i64 k ∧ Hid (Spoil o0 w base w.heap.size gen first ao n ca L' wr)) (fun i _ => n - (intOf i).toNat)
  case atStart => exact ⟨0, L, by omega, rfl, S1⟩
  case round =>
    clear S1 hw1
    obtain ⟨k, L', hk, rfl, HS⟩ := hrel
    have k2 := cell_of_row _ _ 2 _ _ _ HS.out.box
    by_cases hlt : k < n
    · have ho := HS.out.own
      unfold OwnS at ho
      rw [HS.out.len] at ho
      obtain ⟨n', rfl⟩ : ∃ n', n = n' + 1 := ⟨n - 1, by omega⟩
      obtain ⟨g, cap, hv⟩ := ownsRow_succ ho
      injection hv with hv1 hv2 hv3
      subst hv1 hv3
      obtain ⟨⟨c0, c1, c2, c3, c4⟩, hfz⟩ := HS.out.own.cells (i := k) (by have := HS.out.len; omega)
      have z0 := hfz (k * 5)
      have z1 := hfz (k * 5 + 1)
      have z2 := hfz (k * 5 + 2)
      have z3 := hfz (k * 5 + 3)
      have z4 := hfz (k * 5 + 4)
      have GB := Lib.hid (rows_blk HS.out.own rfl).1
      have NE := Lib.hid HS.out.ne
      clear hfz ho
      go_wp2_with fail
      go_roundw
      case rel => exact ⟨k + 1, L'.set k m9, by omega, by go_num, ⟨by rw [List.length_set]; exact HS.out.len, ok_set HS.out.ok m9_ok k, OwnS.set5 HS.out.len HS.out.own (by have := HS.out.len; omega) m9, (set5_off (s := m9) NE.out).trans HS.out.box, set5_below (s := m9) HS.out.low GB.out, HS.out.who, fun q c hq ho => (set5_off (s := m9) (fun e => HS.out.off hq ho (congrArg some e))).trans (HS.out.far q c hq ho)⟩⟩
      case measure => simp [intOf]; omega
    · obtain ⟨N, hN⟩ : ∃ N, min ca (n + 5000) = N := ⟨_, rfl⟩
      have cm1 : ca ≤ 9223372036854775807 := CM.out.1
      have cm2 : n ≤ ca := CM.out.2
      have nN : n ≤ N := by omega
      have N1 : N ≤ 9223372036854775807 := by omega
      have N2 : N ≤ 105000 := by omega
      have HX : Hid ((N : Int) = min (ca : Int) ((n : Int) + 5000)) := Lib.hid (by omega)
      have hge : ¬ (k : Int) < (n : Int) := by omega
      clear hN
      go_wp2_with fail
      refine (room_to (n : Int) (ca : Int) (N : Int) wr (by omega) (by omega) HX.out).mono ?_
      rintro e w3 ⟨rfl, rfl⟩
      have S3 := Lib.hid (show ∃ (ao' : Option Addr) (n' ca' : Nat) (L'' : List SegV), n' ≤ N ∧ Spoil o0 w base w.heap.size gen first ao' n' ca' L'' wr from ⟨_, _, _, _, nN, HS.out⟩)
      clear HS k2 hlt hge hk
      go_wp2_with fail
      go_loopw [28] (fun _ wr => Hid (∃ (ao' : Option Addr) (n' ca' : Nat) (L'' : List SegV), n' ≤ N ∧ Spoil o0 w base w.heap.size gen first ao' n' ca' L'' wr)) (fun _ wr => N - lenAt wr w.heap.size)
      case atStart => exact S3
      case round =>
        clear S3
        obtain ⟨ao', n', ca', L'', hn', HS⟩ := hrel.out
        have HS := Lib.hid HS
        have k2 := cell_of_row _ _ 2 _ _ _ HS.out.box
        by_cases hlt : n' < N
        · have bN := below_alloc wr (.cells #[.int .i64 (-9), .int .i64 0, .int .u32 0, .int .i64 0, .int .i64 0] 53)
          have SG := Lib.hid (seg_alloc wr m9 m9_ok 53)
          have OW := Lib.hid (HS.out.own.keep bN)
          have BX := Lib.hid ((bN.block _ (heap_lt HS.out.box)).trans HS.out.box)
          have LO := Lib.hid (below_trans_to HBS.out HS.out.low bN)
          have SZ := Lib.hid (Nat.le_trans HBS.out LO.out.size)
          have LEN : Hid (L''.length + [m9].length ≤ 3518437208883) := Lib.hid (by rw [HS.out.len]; simp; omega)
          have LZ := Lib.hid (show lenAt wr w.heap.size = n' by unfold lenAt; rw [k2]; rfl)
          have FR := Lib.hid (show ∀ q c, w.heap[q]? = some c → o0 ≠ some q → (wr.alloc (.cells #[.int .i64 (-9), .int .i64 0, .int .u32 0, .int .i64 0, .int .i64 0] 53)).heap[q]? = some c from fun q c hq ho => (bN.block q (heap_lt (HS.out.far q c hq ho))).trans (HS.out.far q c hq ho))
          have LW := Lib.hid (show w.heap.size ≤ (wr.alloc (.cells #[.int .i64 (-9), .int .i64 0, .int .u32 0, .int .i64 0, .int .i64 0] 53)).heap.size from Nat.le_trans HS.out.low.size bN.size)
          clear bN
          go_wp2_with (refine wpList_append_segs_at (o := ⟨some 32, _, _, _, _, _⟩) rfl _ _ rfl base (.slice ao' n' ca') L'' rfl OW.out wr.heap.size 0 1 1 [m9] rfl rfl SG.out LEN.out SZ.out ?_)
          intro v5 w5 ho5 hg5 hat5
          obtain ⟨D, hD⟩ : ∃ D, L'' ++ [m9] = D := ⟨_, rfl⟩
          have LD : D.length = n' + 1 := by rw [← hD, List.length_append, HS.out.len]; rfl
          have OKD : Hid (OkL D) := Lib.hid (hD ▸ ok_append HS.out.ok (ok_of_at SG.out))
          rw [hD] at ho5
          obtain ⟨a5, c5, hv5, -⟩ := OwnS.there ho5 OKD.out (by omega)
          rw [LD] at hv5
          subst hv5
          have NB : (Value.slice ao' n' ca').ownBlock ≠ some w.heap.size := fun e => by
            obtain ⟨-, c, hc⟩ := rows_blk OW.out e
            rw [BX.out] at hc
            simp at hc
          have B5 := Lib.hid ((hg5.block _ (heap_lt BX.out) (fun e => NB e.symm)).trans BX.out)
          have O5 := Lib.hid ho5
          have L5 := Lib.hid (show Below base w w5 from LO.out.grown hg5 (Nat.le_trans HBS.out LO.out.size) (fun j hj => (rows_blk OW.out hj).1))
          have NE5 := Lib.hid (show ∀ j, (Value.slice a5 (n' + 1) c5).ownBlock = some j → w.heap.size ≠ j from fun j hj e => by
            obtain ⟨-, c, hc⟩ := rows_blk O5.out hj
            rw [← e, B5.out] at hc
            simp at hc)
          have WHO5 := Lib.hid (show ∀ j, (Value.slice a5 (n' + 1) c5).ownBlock = some j → o0 = some j ∨ w.heap.size ≤ j from fun j hj => by
            rcases hat5 with e | e
            · exact HS.out.who j (e ▸ hj)
            · rw [e] at hj; injection hj with hj; exact .inr (by have h := HS.out.low.size; omega))
          have FAR5 := Lib.hid (show ∀ q c, w.heap[q]? = some c → o0 ≠ some q → w5.heap[q]? = some c from fun q c hq ho => (hg5.block q (Nat.lt_of_lt_of_le (heap_lt hq) LW.out) (fun e => HS.out.off hq ho e.symm)).trans (FR.out q c hq ho))
          have HLD := Lib.hid LD
          have c2 := cell_of_row _ _ 2 _ _ _ B5.out
          have f2 := frozen_of_row _ _ 2 _ _ B5.out
          clear ho5 hg5 hat5 hD LD NB k2
          go_wp2_with fail
          have BF := set3_2 B5.out (.slice a5 (n' + 1) c5)
          go_roundw
          case rel => exact Lib.hid ⟨a5, n' + 1, c5, D, by omega, HLD.out, OKD.out, rows_congr O5.out fun j hj => set_off (NE5.out j hj) _, BF, L5.out.setCell (p := ⟨w.heap.size, 2, none⟩) HBS.out _, WHO5.out, fun q c hq ho => (set_off (by have := heap_lt hq; omega) _).trans (FAR5.out q c hq ho)⟩
          case measure =>
            have e1 : lenAt (w5.setCell ⟨w.heap.size, 2, none⟩ (.slice a5 (n' + 1) c5)) w.heap.size = n' + 1 := by unfold lenAt; rw [cell_of_row _ _ 2 _ _ _ BF]; rfl
            rw [e1, LZ.out]
            omega
        · go_wp2_with fail
          refine ⟨rfl, _, results_none rfl _ _ _, rfl, ?_⟩
          exact ⟨HS.out.low, HS.out.far⟩
end Go.Proofs.Ytmkljmljbbijeaa

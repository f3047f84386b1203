/- Lists of segments in the call's own memory: appended to, changed; results of catalogs. -/
import Derived.Test.YtmkljmljbbijeaaCatEq
import Derived.Test.YtmkljmljbbijeaaKept
import Derived.Maps.AppendAt
import Derived.Laws.AppendOwnNone
import Derived.Lib.SmallJoins
import Derived.RangeFuncBox
namespace Go.Proofs.Ytmkljmljbbijeaa
open Go.RowKit

set_option maxRecDepth 100000 in
theorem Try.infoSeg : (Try.prog.info? 53).map (fun i => (i.zero, i.size, i.bytes)) = some (some (.agg #[.int .i64 0, .int .i64 0, .int .u32 0, .int .i64 0, .int .i64 0]), 5, 40) := by kernel_rfl
def OwnS (w : World) (base : Nat) (v : Value) (L : List SegV) : Prop := w.ownsRow base 53 5 v L.length (L.flatMap segL)
theorem flat5 : ∀ (L : List SegV) (i j : Nat), i < L.length → j < 5 → (L.flatMap segL)[i * 5 + j]? = (segL (nthS L i))[j]?
  | [], i, j, h, _ => absurd h (by simp)
  | s :: L, 0, j, _, hj => by
    rw [List.flatMap_cons, List.getElem?_append_left (by simp [segL]; omega)]
    simp [nthS]
  | s :: L, i + 1, j, h, hj => by
    rw [List.flatMap_cons, List.getElem?_append_right (by simp [segL]; omega), show (i + 1) * 5 + j - (segL s).length = i * 5 + j by simp [segL]; omega, flat5 L i j (by simpa using h) hj]
    simp [nthS]
theorem flat5_length : ∀ L : List SegV, (L.flatMap segL).length = L.length * 5
  | [] => rfl
  | s :: L => by rw [List.flatMap_cons, List.length_append, flat5_length L]; simp [segL]; omega
theorem flat5_append (A B : List SegV) : (A ++ B).flatMap segL = A.flatMap segL ++ B.flatMap segL := by simp
theorem flat5_one (L : List SegV) : ∀ u ∈ L.flatMap segL, u.oneCell' = true := fun u hu => by
  obtain ⟨s, -, hs⟩ := List.mem_flatMap.1 hu
  simp only [segL, List.mem_cons, List.not_mem_nil, or_false] at hs
  rcases hs with rfl | rfl | rfl | rfl | rfl <;> rfl
theorem OwnS.nil (w : World) (base : Nat) : OwnS w base (.slice none 0 0) [] := World.ownsRow_nil w base _ 5
theorem OwnS.keep {w w' : World} {base : Nat} {v : Value} {L : List SegV} (h : OwnS w base v L) (hb : Below w.heap.size w w') : OwnS w' base v L :=
  rows_congr h fun g hg => by
    obtain ⟨-, cur, hc⟩ := rows_blk h hg
    exact hb.block g (heap_lt hc)
theorem OwnS.below {w w' : World} {base B : Nat} {v : Value} {L : List SegV} (h : OwnS w base v L) (hg : w.grownBy w' v.ownBlock) (hB : B ≤ base) (hs : B ≤ w.heap.size) : Below B w w' :=
  (Below.refl B w).grown hg hs (fun k hk => by have := (rows_blk h hk).1; omega)
def OkL (L : List SegV) : Prop := ∀ i, i < L.length → SegOk (nthS L i)
/-- What is owned is there. -/
theorem OwnS.there {w : World} {base : Nat} {v : Value} {L : List SegV} (h : OwnS w base v L) (ok : OkL L) (hl : L.length ≤ 140737488355328) : ∃ ao ca, v = .slice ao L.length ca ∧ SegsAt w ao L ∧ L.length ≤ ca ∧ L.length ≤ 140737488355328 ∧ (ao = none → ca = 0) := by
  rcases h.2 with ⟨rfl, h0⟩ | ⟨g, cap, cur, rfl, hb, hc, hle, -, hsz, htk⟩
  · refine ⟨none, 0, by rw [h0], fun i hi => absurd hi (by omega), by omega, hl, fun _ => rfl⟩
  · refine ⟨some ⟨g, 0, none⟩, cap, rfl, fun i hi => ⟨ok i hi, g, 0, rfl, ?_⟩, hle, hl, fun e => by cases e⟩
    have key : ∀ j u, j < 5 → (segL (nthS L i))[j]? = some u → w.cell? ⟨g, 0 + i * 5 + j, none⟩ = some u := fun j u hj hu => by
      rw [cell_of_row _ _ _ _ _ _ hc, ← Array.getElem?_toList, ← hu, ← flat5 L i j hi hj, ← htk, List.getElem?_take, if_pos (by omega), Nat.zero_add]
    exact ⟨key 0 _ (by omega) rfl, key 1 _ (by omega) rfl, key 2 _ (by omega) rfl, key 3 _ (by omega) rfl, key 4 _ (by omega) rfl⟩
theorem CatAt.of_own {w : World} {base : Nat} {v : Value} {L : List SegV} {gen first : Int} (h : OwnS w base v L) (ok : OkL L) (hl : L.length ≤ 140737488355328) (hg : R64 gen) (hf : R64 first) : CatAt w (.agg #[.int .i64 gen, .int .i64 first, v]) ⟨gen, first, L⟩ := by
  obtain ⟨ao, ca, rfl, r⟩ := h.there ok hl
  exact ⟨⟨ao, ca, rfl, r⟩, hg, hf⟩
theorem ok_append {A B : List SegV} (a : OkL A) (b : OkL B) : OkL (A ++ B) := fun i hi => by
  rcases Nat.lt_or_ge i A.length with h | h
  · have := a i h
    simpa [nthS, List.getElem?_append_left h] using this
  · have := b (i - A.length) (by rw [List.length_append] at hi; omega)
    simpa [nthS, List.getElem?_append_right h] using this
theorem ok_of_at {w : World} {ao : Option Addr} {L : List SegV} (h : SegsAt w ao L) : OkL L := fun i hi => (h i hi).1
theorem segs_news {w : World} {b off : Nat} {L : List SegV} (h : SegsAt w (some ⟨b, off, none⟩) L) : ∀ j u, (L.flatMap segL)[j]? = some u → w.cell? ((⟨b, off, none⟩ : Addr).add j) = some u := fun j u hj => by
  have hlt := (List.getElem?_eq_some_iff.1 hj).1
  rw [flat5_length] at hlt
  have hi : j / 5 < L.length := by omega
  obtain ⟨-, c⟩ := h.get hi
  have e : j = j / 5 * 5 + j % 5 := by omega
  rw [e, flat5 L _ _ hi (by omega)] at hj
  rw [Addr.add_mid, e, ← Nat.add_assoc]
  exact c.range (j % 5) u hj
theorem seg_one (s : SegV) : [s].flatMap segL = segL s := by simp

/-- Append: segments, from wherever. -/
theorem wpList_append_segs {w : World} {ops : Array Oper} {rest : List Oper} {o : Oper} {a : Act} {Q : Exit → Act → World → Prop} (hgd : o.guard = none) (s x : Operand)
    (ho : o.op = .call { callee := .builtin .append, args := #[s, x], argTypes := #[27, 27] })
    (base : Nat) (v : Value) (A : List SegV) (hs : a.eval s = v) (hown : OwnS w base v A)
    (ao : Option Addr) (n cap : Nat) (B : List SegV) (hx : a.eval x = .slice ao n cap) (hn : n = B.length) (hb : SegsAt w ao B) (hnil : ao = none → cap = 0)
    (hlen : A.length + B.length ≤ 3518437208883) (hbase : base ≤ w.heap.size)
    (h : ∀ v' w', OwnS w' base v' (A ++ B) → w.grownBy w' v.ownBlock → wpList Try.prog ops Q rest (a.put o.dst v') w') : wpList Try.prog ops Q (o :: rest) a w := by
  subst hn
  obtain ⟨i, hi, hz0, hz1, hz2⟩ := info_parts Try.infoSeg
  cases ao with
  | none =>
    have h0 : B.length = 0 := by
      rcases Nat.eq_zero_or_pos B.length with h | h
      · exact h
      · obtain ⟨-, b, off, e, _⟩ := hb 0 h; cases e
    have hbs : B = [] := List.eq_nil_of_length_eq_zero h0
    subst hbs
    rw [hnil rfl] at hx
    refine wpList_append_own_none hgd s x 27 ho base 53 i 5 Try.underlying27 hi v A.length (A.flatMap segL) hs hown hx ?_
    exact h v w (by simpa using hown) (World.grownBy.refl _ _)
  | some ad =>
    by_cases h0 : B.length = 0
    · have hbs : B = [] := List.eq_nil_of_length_eq_zero h0
      subst hbs
      refine wpList_append_own_at (w := w) hgd s x 27 ho base 53 i _ 5 40 Try.underlying27 hi hz0 hz1 hz2 rfl (by decide) v A.length (A.flatMap segL) hs hown ad 0 cap [] hx rfl (fun j u hu => by simp at hu) (fun u hu => by simp at hu)
        (by simp only [maxLen]; simp at hlen; omega) (by simp at hlen; omega) hbase ?_
      intro v' w' h1 h2 h3 h4
      exact h v' w' (by unfold OwnS; simpa using h1) h2
    · obtain ⟨-, b, off, e, -⟩ := hb 0 (by omega)
      obtain rfl := Option.some.inj e
      refine wpList_append_own_at (w := w) hgd s x 27 ho base 53 i _ 5 40 Try.underlying27 hi hz0 hz1 hz2 rfl (by decide) v A.length (A.flatMap segL) hs hown _ B.length cap (B.flatMap segL) hx (flat5_length B) (segs_news hb) (flat5_one B)
        (by simp only [maxLen]; omega) (by omega) hbase ?_
      intro v' w' h1 h2 h3 h4
      refine h v' w' ?_ h2
      unfold OwnS
      rw [List.length_append, flat5_append]
      exact h1
/-- A cell of an owned row, set. -/
theorem ownsRow_set {w : World} {base : Nat} {e : TypeId} {size g cap n i : Nat} {xs : List Value} (h : w.ownsRow base e size (.slice (some ⟨g, 0, none⟩) n cap) n xs) (u : Value) : (w.setCell ⟨g, i, none⟩ u).ownsRow base e size (.slice (some ⟨g, 0, none⟩) n cap) n (xs.set i u) := by
  obtain ⟨hl, ⟨h0, -⟩ | ⟨g', cap', cur, hv, hb, hc, hle, hm, hsz, htk⟩⟩ := h
  · cases h0
  · injection hv with hv1 _ hv2
    injection hv1 with hv1
    injection hv1 with hv1
    subst hv1 hv2
    refine ⟨by simpa using hl, .inr ⟨g, cap, cur.setIfInBounds i u, rfl, hb, Go.Joins.block_setCell hc u, hle, hm, by simpa using hsz, ?_⟩⟩
    rw [← htk, Array.toList_setIfInBounds, List.take_set]
theorem flat5_set3 (x : Int) : ∀ (L : List SegV) (i : Nat), i < L.length → (L.flatMap segL).set (i * 5 + 3) (.int .i64 x) = (L.set i { nthS L i with end_ := x }).flatMap segL
  | [], i, h => absurd h (by simp)
  | s :: L, 0, _ => by simp [segL, nthS]
  | s :: L, i + 1, h => by
    have := flat5_set3 x L i (by simpa using h)
    rw [List.flatMap_cons, List.set_cons_succ, List.flatMap_cons, List.set_append_right _ _ (by simp [segL]; omega), show (i + 1) * 5 + 3 - (segL s).length = i * 5 + 3 by simp [segL]; omega, this]
    simp [nthS]
theorem flat5_set4 (x : Int) : ∀ (L : List SegV) (i : Nat), i < L.length → (L.flatMap segL).set (i * 5 + 4) (.int .i64 x) = (L.set i { nthS L i with size := x }).flatMap segL
  | [], i, h => absurd h (by simp)
  | s :: L, 0, _ => by simp [segL, nthS]
  | s :: L, i + 1, h => by
    have := flat5_set4 x L i (by simpa using h)
    rw [List.flatMap_cons, List.set_cons_succ, List.flatMap_cons, List.set_append_right _ _ (by simp [segL]; omega), show (i + 1) * 5 + 4 - (segL s).length = i * 5 + 4 by simp [segL]; omega, this]
    simp [nthS]
/-- A segment's end and size, set. -/
def sealS (L : List SegV) (i : Nat) (en size : Int) : List SegV := L.set i { nthS L i with end_ := en, size := size }
theorem sealS_length (L : List SegV) (i : Nat) (en size : Int) : (sealS L i en size).length = L.length := by simp [sealS]
theorem nthS_seal (L : List SegV) {i : Nat} (en size : Int) (hi : i < L.length) (j : Nat) : nthS (sealS L i en size) j = if i = j then { nthS L i with end_ := en, size := size } else nthS L j := by
  unfold sealS nthS
  by_cases h : i = j
  · subst h; rw [if_pos rfl]; simp [hi]
  · rw [if_neg h]; simp [h]
theorem OwnS.seal {w : World} {base g cap : Nat} {L : List SegV} (h : OwnS w base (.slice (some ⟨g, 0, none⟩) L.length cap) L) {i : Nat} (hi : i < L.length) (en size : Int) :
    OwnS ((w.setCell ⟨g, i * 5 + 3, none⟩ (.int .i64 en)).setCell ⟨g, i * 5 + 4, none⟩ (.int .i64 size)) base (.slice (some ⟨g, 0, none⟩) L.length cap) (sealS L i en size) := by
  have h1 := ownsRow_set h (.int .i64 en) (i := i * 5 + 3)
  have h2 := ownsRow_set h1 (.int .i64 size) (i := i * 5 + 4)
  rw [flat5_set3 en L i hi] at h2
  have e := flat5_set4 size (L.set i { nthS L i with end_ := en }) i (by simpa using hi)
  rw [e] at h2
  unfold OwnS
  rw [sealS_length]
  have e2 : (L.set i { nthS L i with end_ := en }).set i { nthS (L.set i { nthS L i with end_ := en }) i with size := size } = sealS L i en size := by
    unfold sealS nthS
    simp [hi]
  rw [e2] at h2
  exact h2
theorem results_cat2 {fn : Func} {p u : Tmp} (h : fn.results = #[.cell p 29, .tmp u]) (tmps : Array Value) (w : World) (b : Nat) (x y z : Value)
    (hp : tmps.getD p undef = .pointer (some ⟨b, 0, none⟩)) (c0 : w.cell? ⟨b, 0, none⟩ = some x) (c1 : w.cell? ⟨b, 1, none⟩ = some y) (c2 : w.cell? ⟨b, 2, none⟩ = some z) :
    (results fn tmps).run Try.prog w = .ok (.tuple #[.agg #[x, y, z], tmps.getD u undef]) w := by
  have hp' : tmps[p]?.getD undef = .pointer (some ⟨b, 0, none⟩) := by simpa using hp
  simp [results, h, hp', go_sem, c0, c1, c2, asAddr, loadVar, Result.andThen, Sem.run_bind]
theorem results_cat1 {fn : Func} {p : Tmp} (h : fn.results = #[.cell p 29]) (tmps : Array Value) (w : World) (b : Nat) (x y z : Value)
    (hp : tmps.getD p undef = .pointer (some ⟨b, 0, none⟩)) (c0 : w.cell? ⟨b, 0, none⟩ = some x) (c1 : w.cell? ⟨b, 1, none⟩ = some y) (c2 : w.cell? ⟨b, 2, none⟩ = some z) :
    (results fn tmps).run Try.prog w = .ok (.agg #[x, y, z]) w := by
  have hp' : tmps[p]?.getD undef = .pointer (some ⟨b, 0, none⟩) := by simpa using hp
  simp [results, h, hp', go_sem, c0, c1, c2, asAddr, loadVar, Result.andThen, Sem.run_bind]
theorem results_cat3 {fn : Func} {p t u : Tmp} (h : fn.results = #[.cell p 29, .tmp t, .tmp u]) (tmps : Array Value) (w : World) (b : Nat) (x y z : Value)
    (hp : tmps.getD p undef = .pointer (some ⟨b, 0, none⟩)) (c0 : w.cell? ⟨b, 0, none⟩ = some x) (c1 : w.cell? ⟨b, 1, none⟩ = some y) (c2 : w.cell? ⟨b, 2, none⟩ = some z) :
    (results fn tmps).run Try.prog w = .ok (.tuple #[.agg #[x, y, z], tmps.getD t undef, tmps.getD u undef]) w := by
  have hp' : tmps[p]?.getD undef = .pointer (some ⟨b, 0, none⟩) := by simpa using hp
  simp [results, h, hp', go_sem, c0, c1, c2, asAddr, loadVar, Result.andThen, Sem.run_bind]
end Go.Proofs.Ytmkljmljbbijeaa

/-! Lists of int64 in the call's own memory. -/
namespace Go.Proofs.Ytmkljmljbbijeaa
open Go.RowKit

set_option maxRecDepth 100000 in
theorem Try.infoI64 : (Try.prog.info? 2).map (fun i => (i.zero, i.size, i.bytes)) = some (some (.int .i64 0), 1, 8) := by kernel_rfl
def ints (l : List Int) : List Value := l.map (.int .i64 ·)
def OwnI (w : World) (base : Nat) (v : Value) (l : List Int) : Prop := w.ownsRow base 2 1 v l.length (ints l)
theorem OwnI.nil (w : World) (base : Nat) : OwnI w base (.slice none 0 0) [] := World.ownsRow_nil w base _ 1
theorem OwnI.keep {w w' : World} {base : Nat} {v : Value} {L : List Int} (h : OwnI w base v L) (hb : Below w.heap.size w w') : OwnI w' base v L :=
  rows_congr h fun g hg => by
    obtain ⟨-, cur, hc⟩ := rows_blk h hg
    exact hb.block g (heap_lt hc)
theorem OwnI.base {w : World} {base base' : Nat} {v : Value} {L : List Int} (h : OwnI w base v L) (hb : base' ≤ base) : OwnI w base' v L :=
  ⟨h.1, by
    rcases h.2 with h0 | ⟨g, cap, cur, e, hg, r⟩
    · exact .inl h0
    · exact .inr ⟨g, cap, cur, e, Nat.le_trans hb hg, r⟩⟩
theorem OwnS.base {w : World} {base base' : Nat} {v : Value} {L : List SegV} (h : OwnS w base v L) (hb : base' ≤ base) : OwnS w base' v L :=
  ⟨h.1, by
    rcases h.2 with h0 | ⟨g, cap, cur, e, hg, r⟩
    · exact .inl h0
    · exact .inr ⟨g, cap, cur, e, Nat.le_trans hb hg, r⟩⟩
/-- Append: one number, laid in a block of its own. -/
theorem wpList_append_i64 {w : World} {ops : Array Oper} {rest : List Oper} {o : Oper} {a : Act} {Q : Exit → Act → World → Prop} (hgd : o.guard = none) (s x : Operand)
    (ho : o.op = .call { callee := .builtin .append, args := #[s, x], argTypes := #[41, 41] })
    (base : Nat) (v : Value) (l : List Int) (hs : a.eval s = v) (hown : OwnI w base v l)
    (ad : Addr) (y : Int) (hx : a.eval x = .slice (some ad) 1 1) (hy : ∀ j u, [Value.int .i64 y][j]? = some u → w.cell? (ad.add j) = some u)
    (hlen : l.length ≤ 1099511627776) (hbase : base ≤ w.heap.size)
    (h : ∀ v' w', OwnI w' base v' (l ++ [y]) → w.grownBy w' v.ownBlock → wpList Try.prog ops Q rest (a.put o.dst v') w') : wpList Try.prog ops Q (o :: rest) a w := by
  obtain ⟨i, hi, hz0, hz1, hz2⟩ := info_parts Try.infoI64
  refine wpList_append_own_at (w := w) hgd s x 41 ho base 2 i (.int .i64 0) 1 8 Try.underlying41 hi hz0 hz1 hz2 rfl (by decide) v l.length (ints l) hs hown ad 1 1 [.int .i64 y] hx rfl hy (by intro u hu; rw [List.mem_singleton.1 hu]; rfl)
    (by simp only [maxLen]; omega) (by omega) hbase ?_
  intro v' w' h1 h2 h3 h4
  refine h v' w' ?_ h2
  unfold OwnI
  rw [List.length_append]
  simpa [ints] using h1
end Go.Proofs.Ytmkljmljbbijeaa

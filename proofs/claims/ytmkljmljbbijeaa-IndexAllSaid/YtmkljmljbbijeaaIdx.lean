/- Entries of an index in memory: lists of them in the call's own memory, appended to, cut. -/
import Derived.Test.YtmkljmljbbijeaaSegsOwn
import Derived.ArgAppend
import Derived.Test.YtmkljmljbbijeaaSearch
import Derived.Test.YtmkljmljbbijeaaQuietTail
import Derived.Test.YtmkljmljbbijeaaMixed
import Derived.Test.YtmkljmljbbijeaaFork2
namespace Go.Proofs.Ytmkljmljbbijeaa
open Go.RowKit

structure EntV where
  lsn : Int
  off : Int
instance : Inhabited EntV := ⟨⟨0, 0⟩⟩
def nthE (L : List EntV) (i : Nat) : EntV := L.getD i ⟨0, 0⟩
def entL (e : EntV) : List Value := [.int .i64 e.lsn, .int .i64 e.off]
structure EntCells (w : World) (b o : Nat) (e : EntV) : Prop where
  c0 : w.cell? ⟨b, o, none⟩ = some (.int .i64 e.lsn)
  c1 : w.cell? ⟨b, o + 1, none⟩ = some (.int .i64 e.off)
theorem EntCells.below {w w' : World} {b o : Nat} {e : EntV} (h : EntCells w b o e) (hb : Below w.heap.size w w') : EntCells w' b o e := ⟨cell_keep hb h.c0, cell_keep hb h.c1⟩
theorem EntCells.range {w : World} {b o : Nat} {e : EntV} (h : EntCells w b o e) : ∀ j u, (entL e)[j]? = some u → w.cell? ⟨b, o + j, none⟩ = some u
  | 0, u, hj => by have hj' : some (Value.int .i64 e.lsn) = some u := hj; injection hj' with hj'; subst hj'; exact h.c0
  | 1, u, hj => by have hj' : some (Value.int .i64 e.off) = some u := hj; injection hj' with hj'; subst hj'; exact h.c1
  | j + 2, u, hj => by simp [entL] at hj
def EntsAt (w : World) (ao : Option Addr) (L : List EntV) : Prop := ∀ i, i < L.length → ∃ b off, ao = some ⟨b, off, none⟩ ∧ EntCells w b (off + i * 2) (nthE L i)
theorem EntsAt.below {w w' : World} {ao : Option Addr} {L : List EntV} (h : EntsAt w ao L) (hb : Below w.heap.size w w') : EntsAt w' ao L := fun i hi => by
  obtain ⟨b, off, e, hc⟩ := h i hi
  exact ⟨b, off, e, hc.below hb⟩
theorem EntsAt.get {w : World} {b off : Nat} {L : List EntV} (h : EntsAt w (some ⟨b, off, none⟩) L) {i : Nat} (hi : i < L.length) : EntCells w b (off + i * 2) (nthE L i) := by
  obtain ⟨b', off', e, hc⟩ := h i hi
  injection e with e
  injection e with e1 e2
  subst e1 e2
  exact hc
set_option maxRecDepth 100000 in
theorem Try.infoEnt : (Try.prog.info? 64).map (fun i => (i.zero, i.size, i.bytes)) = some (some (.agg #[.int .i64 0, .int .i64 0]), 2, 16) := by kernel_rfl
def OwnE (w : World) (base : Nat) (v : Value) (L : List EntV) : Prop := w.ownsRow base 64 2 v L.length (L.flatMap entL)
theorem flat2 : ∀ (L : List EntV) (i j : Nat), i < L.length → j < 2 → (L.flatMap entL)[i * 2 + j]? = (entL (nthE L i))[j]?
  | [], i, j, h, _ => absurd h (by simp)
  | s :: L, 0, j, _, hj => by
    rw [List.flatMap_cons, List.getElem?_append_left (by simp [entL]; omega)]
    simp [nthE]
  | s :: L, i + 1, j, h, hj => by
    rw [List.flatMap_cons, List.getElem?_append_right (by simp [entL]; omega), show (i + 1) * 2 + j - (entL s).length = i * 2 + j by simp [entL]; omega, flat2 L i j (by simpa using h) hj]
    simp [nthE]
theorem flat2_length : ∀ L : List EntV, (L.flatMap entL).length = L.length * 2
  | [] => rfl
  | s :: L => by rw [List.flatMap_cons, List.length_append, flat2_length L]; simp [entL]; omega
theorem flat2_append (A B : List EntV) : (A ++ B).flatMap entL = A.flatMap entL ++ B.flatMap entL := by simp
theorem flat2_take : ∀ (L : List EntV) (i : Nat), i ≤ L.length → (L.take i).flatMap entL = (L.flatMap entL).take (i * 2)
  | [], i, h => by obtain rfl : i = 0 := by simpa using h
                   rfl
  | s :: L, 0, _ => by simp
  | s :: L, i + 1, h => by
    have := flat2_take L i (by simpa using h)
    rw [List.take_succ_cons, List.flatMap_cons, List.flatMap_cons, this, show (i + 1) * 2 = (entL s).length + i * 2 by simp [entL]; omega, List.take_length_add_append]
theorem flat2_one (L : List EntV) : ∀ u ∈ L.flatMap entL, u.oneCell' = true := fun u hu => by
  obtain ⟨s, -, hs⟩ := List.mem_flatMap.1 hu
  simp only [entL, List.mem_cons, List.not_mem_nil, or_false] at hs
  rcases hs with rfl | rfl <;> rfl
theorem OwnE.nil (w : World) (base : Nat) : OwnE w base (.slice none 0 0) [] := World.ownsRow_nil w base _ 2
theorem OwnE.keep {w w' : World} {base : Nat} {v : Value} {L : List EntV} (h : OwnE w base v L) (hb : Below w.heap.size w w') : OwnE w' base v L :=
  rows_congr h fun g hg => by
    obtain ⟨-, cur, hc⟩ := rows_blk h hg
    exact hb.block g (heap_lt hc)
theorem OwnE.base {w : World} {base base' : Nat} {v : Value} {L : List EntV} (h : OwnE w base v L) (hb : base' ≤ base) : OwnE w base' v L :=
  ⟨h.1, by
    rcases h.2 with h0 | ⟨g, cap, cur, e, hg, r⟩
    · exact .inl h0
    · exact .inr ⟨g, cap, cur, e, Nat.le_trans hb hg, r⟩⟩
/-- A list of entries that the call may append to: in a row of its own; of a row that was cut, with no room behind. -/
def HeldE (w : World) (base : Nat) (v : Value) (L : List EntV) : Prop :=
  (v = .slice none 0 0 ∧ L = []) ∨ ∃ g cap cur, v = .slice (some ⟨g, 0, none⟩) L.length cap ∧ base ≤ g ∧ w.heap[g]? = some (.cells cur 64 (0, 0)) ∧ L.length ≤ cap ∧ cap ≤ maxLen ∧ (cur.size = cap * 2 ∨ cap = L.length) ∧ cur.toList.take (L.length * 2) = L.flatMap entL
theorem HeldE.of_own {w : World} {base : Nat} {v : Value} {L : List EntV} (h : OwnE w base v L) : HeldE w base v L := by
  rcases h.2 with ⟨h0, h1⟩ | ⟨g, cap, cur, e, hb, hc, hle, hm, hsz, htk⟩
  · exact .inl ⟨h0, List.eq_nil_of_length_eq_zero h1⟩
  · exact .inr ⟨g, cap, cur, e, hb, hc, hle, hm, .inl hsz, htk⟩
theorem held_blk {w : World} {base : Nat} {v : Value} {L : List EntV} (h : HeldE w base v L) {g : Nat} (hg : v.ownBlock = some g) : base ≤ g ∧ ∃ cur, w.heap[g]? = some (.cells cur 64 (0, 0)) := by
  rcases h with ⟨h0, -⟩ | ⟨g', cap, cur, e, hb, hc, -⟩
  · rw [h0] at hg; cases hg
  · rw [e] at hg
    have : g' = g := by simpa [Value.ownBlock] using hg
    subst this
    exact ⟨hb, cur, hc⟩
theorem held_congr {w w' : World} {base : Nat} {v : Value} {L : List EntV} (h : HeldE w base v L) (hk : ∀ g, v.ownBlock = some g → w'.heap[g]? = w.heap[g]?) : HeldE w' base v L := by
  rcases h with h0 | ⟨g, cap, cur, e, hb, hc, r⟩
  · exact .inl h0
  · exact .inr ⟨g, cap, cur, e, hb, (hk g (by rw [e]; rfl)).trans hc, r⟩
theorem HeldE.keep {w w' : World} {base : Nat} {v : Value} {L : List EntV} (h : HeldE w base v L) (hb : Below w.heap.size w w') : HeldE w' base v L :=
  held_congr h fun g hg => by
    obtain ⟨-, cur, hc⟩ := held_blk h hg
    exact hb.block g (heap_lt hc)
theorem HeldE.nil (w : World) (base : Nat) : HeldE w base (.slice none 0 0) [] := .inl ⟨rfl, rfl⟩
/-- What a held list looks like. -/
theorem HeldE.shape {w : World} {base : Nat} {v : Value} {L : List EntV} (h : HeldE w base v L) : ∃ ao cap, v = .slice ao L.length cap ∧ EntsAt w ao L ∧ (ao = none → cap = 0) ∧ L.length ≤ cap ∧ cap ≤ maxLen := by
  rcases h with ⟨rfl, rfl⟩ | ⟨g, cap, cur, rfl, hb, hc, hle, hm, hsz, htk⟩
  · exact ⟨none, 0, rfl, fun i hi => absurd hi (by simp), fun _ => rfl, Nat.le_refl _, Nat.zero_le _⟩
  · refine ⟨some ⟨g, 0, none⟩, cap, rfl, fun i hi => ⟨g, 0, rfl, ?_⟩, (fun e => by cases e), hle, hm⟩
    have key : ∀ j u, j < 2 → (entL (nthE L i))[j]? = some u → w.cell? ⟨g, 0 + i * 2 + j, none⟩ = some u := fun j u hj hu => by
      rw [cell_of_row _ _ _ _ _ _ hc, ← Array.getElem?_toList, ← hu, ← flat2 L i j hi hj, ← htk, List.getElem?_take, if_pos (by omega), Nat.zero_add]
    exact ⟨key 0 _ (by omega) rfl, key 1 _ (by omega) rfl⟩
theorem HeldE.get {w : World} {base : Nat} {ao : Option Addr} {n cap : Nat} {L : List EntV} (h : HeldE w base (.slice ao n cap) L) {i : Nat} (hi : i < L.length) : ∃ g, ao = some ⟨g, 0, none⟩ ∧ base ≤ g ∧ EntCells w g (i * 2) (nthE L i) ∧ L.length = n ∧ n ≤ cap := by
  rcases h with ⟨-, rfl⟩ | ⟨g, cap', cur, e, hb, hc, hle, hm, hsz, htk⟩
  · exact absurd hi (by simp)
  · have hh : HeldE w base (.slice (some ⟨g, 0, none⟩) L.length cap') L := .inr ⟨g, cap', cur, rfl, hb, hc, hle, hm, hsz, htk⟩
    injection e with e1 e2 e3
    subst e1 e2 e3
    obtain ⟨ao, c2, e, hat, -⟩ := hh.shape
    injection e with e
    subst e
    have := hat.get hi
    rw [Nat.zero_add] at this
    exact ⟨g, rfl, hb, this, rfl, hle⟩
theorem HeldE.len {w : World} {base : Nat} {ao : Option Addr} {n cap : Nat} {L : List EntV} (h : HeldE w base (.slice ao n cap) L) : L.length = n ∧ n ≤ cap ∧ cap ≤ maxLen ∧ EntsAt w ao L ∧ (ao = none → cap = 0) := by
  obtain ⟨ao', cap', e, h1, h2, h3, h4⟩ := h.shape
  injection e with e1 e2 e3
  subst e1 e2 e3
  exact ⟨rfl, h3, h4, h1, h2⟩
/-- Cut, with no room behind. -/
theorem HeldE.cut {w : World} {base : Nat} {ao : Option Addr} {n cap i : Nat} {L : List EntV} (h : HeldE w base (.slice ao n cap) L) (hi : i ≤ n) : HeldE w base (.slice ao i i) (L.take i) := by
  have hl := h.len.1
  rcases h with ⟨e, rfl⟩ | ⟨g, cap', cur, e, hb, hc, hle, hm, hsz, htk⟩
  · injection e with e1 e2 e3
    subst e1
    obtain rfl : i = 0 := by simp at hl; omega
    exact .inl ⟨rfl, by simp⟩
  · injection e with e1 e2 e3
    subst e1 e2 e3
    have hti : (L.take i).length = i := by rw [List.length_take]; omega
    refine .inr ⟨g, i, cur, by rw [hti], hb, hc, by omega, by unfold maxLen at *; omega, .inr hti.symm, ?_⟩
    rw [hti, flat2_take L i hi, ← htk, List.take_take]
    congr 1
    omega
/-- Cut, the room behind left. -/
theorem OwnE.cut {w : World} {base : Nat} {ao : Option Addr} {n cap i : Nat} {L : List EntV} (h : OwnE w base (.slice ao n cap) L) (hi : i ≤ n) : OwnE w base (.slice ao i cap) (L.take i) := by
  have hl := (HeldE.of_own h).len.1
  have hti : (L.take i).length = i := by rw [List.length_take]; omega
  refine ⟨by rw [flat2_length], ?_⟩
  rw [hti]
  rcases h.2 with ⟨e, h0⟩ | ⟨g, cap', cur, e, hb, hc, hle, hm, hsz, htk⟩
  · injection e with e1 e2 e3
    subst e1 e3
    obtain rfl : i = 0 := by omega
    exact .inl ⟨rfl, rfl⟩
  · injection e with e1 e2 e3
    subst e1 e3
    refine .inr ⟨g, cap, cur, rfl, hb, hc, by omega, hm, hsz, ?_⟩
    rw [flat2_take L i (by omega), ← htk, List.take_take]
    congr 1
    omega

set_option maxRecDepth 100000 in
/-- Append: one entry. -/
theorem wpList_append_held {w : World} {ops : Array Oper} {rest : List Oper} {o : Oper} {a : Act} {Q : Exit → Act → World → Prop} (hgd : o.guard = none) (s x : Operand)
    (ho : o.op = .call { callee := .builtin .append, args := #[s, x], argTypes := #[67, 67] })
    (base : Nat) (v : Value) (A : List EntV) (hs : a.eval s = v) (hh : HeldE w base v A)
    (ad : Addr) (e : EntV) (hx : a.eval x = .slice (some ad) 1 1) (hy : ∀ j u, (entL e)[j]? = some u → w.cell? (ad.add j) = some u)
    (hlen : A.length ≤ 8796093022207) (hbase : base ≤ w.heap.size)
    (h : ∀ v' w', HeldE w' base v' (A ++ [e]) → w.grownBy w' v.ownBlock → (∀ j, v'.ownBlock = some j → v.ownBlock = some j ∨ w.heap.size ≤ j) → wpList Try.prog ops Q rest (a.put o.dst v') w') : wpList Try.prog ops Q (o :: rest) a w := by
  obtain ⟨i, hi, hz0, hz1, hz2⟩ := info_parts Try.infoEnt
  have done : ∀ v' w', OwnE w' base v' (A ++ [e]) → w.grownBy w' v.ownBlock → (∀ j, v'.ownBlock = some j → v.ownBlock = some j ∨ w.heap.size ≤ j) → wpList Try.prog ops Q rest (a.put o.dst v') w' := fun v' w' h1 => h v' w' (.of_own h1)
  have own : OwnE w base v A → wpList Try.prog ops Q (o :: rest) a w := fun hown => by
    refine wpList_append_own_at (w := w) hgd s x 67 ho base 64 i _ 2 16 Try.underlying67 hi hz0 hz1 hz2 rfl (by decide) v A.length (A.flatMap entL) hs hown ad 1 1 (entL e) hx rfl hy (by intro u hu; simp only [entL, List.mem_cons, List.not_mem_nil, or_false] at hu; rcases hu with rfl | rfl <;> rfl)
      (by simp only [maxLen]; omega) (by omega) hbase ?_
    intro v' w' h1 h2 h3 h4
    refine done v' w' ?_ h2 fun j hj => ?_
    · unfold OwnE
      rw [List.length_append, flat2_append, show [e].flatMap entL = entL e by simp]
      exact h1
    · rcases h4 with h4 | h4
      · exact .inl (h4 ▸ hj)
      · rw [h4] at hj; injection hj with hj; exact .inr (by omega)
  rcases hh with ⟨rfl, rfl⟩ | ⟨g, cap, cur, rfl, hb, hc, hle, hm, hsz, htk⟩
  · exact own (OwnE.nil w base)
  · rcases hsz with hsz | rfl
    · exact own ⟨by rw [flat2_length], .inr ⟨g, cap, cur, rfl, hb, hc, hle, hm, hsz, htk⟩⟩
    · refine wpList_append_grows w hgd s x 67 ho 64 i _ 2 16 Try.underlying67 hi hz0 hz1 hz2 rfl (by decide) (some ⟨g, 0, none⟩) A.length A.length (A.flatMap entL) hs (fun e => by cases e) (flat2_length A) (fun b hbe j u hj => ?_) ad 1 1 (entL e) hx rfl hy (by intro u hu; simp only [entL, List.mem_cons, List.not_mem_nil, or_false] at hu; rcases hu with rfl | rfl <;> rfl)
        (by omega) (by simp only [maxLen]; omega) (by omega) ?_
      · injection hbe with hbe
        subst hbe
        have hlt := (List.getElem?_eq_some_iff.1 hj).1
        rw [flat2_length] at hlt
        rw [Addr.add_mid, cell_of_row _ _ _ _ _ _ hc, ← Array.getElem?_toList, ← hj, ← htk, List.getElem?_take, if_pos hlt, Nat.zero_add]
      · intro v' w' h1 h2
        refine done v' w' ?_ ⟨h2.os, h2.tape, h2.output, h2.size, fun k hk _ => h2.block k hk (by simp)⟩ fun j hj => .inr (rows_blk h1 hj).1
        refine OwnE.base (base := w.heap.size) ?_ hbase
        unfold OwnE
        rw [List.length_append, flat2_append, show [e].flatMap entL = entL e by simp]
        exact h1
set_option maxRecDepth 100000 in
/-- Append: one entry, onto a row of the call's own. -/
theorem wpList_append_ent {w : World} {ops : Array Oper} {rest : List Oper} {o : Oper} {a : Act} {Q : Exit → Act → World → Prop} (hgd : o.guard = none) (s x : Operand)
    (ho : o.op = .call { callee := .builtin .append, args := #[s, x], argTypes := #[67, 67] })
    (base : Nat) (v : Value) (A : List EntV) (hs : a.eval s = v) (hown : OwnE w base v A)
    (ad : Addr) (e : EntV) (hx : a.eval x = .slice (some ad) 1 1) (hy : ∀ j u, (entL e)[j]? = some u → w.cell? (ad.add j) = some u)
    (hlen : A.length ≤ 8796093022207) (hbase : base ≤ w.heap.size)
    (h : ∀ v' w', OwnE w' base v' (A ++ [e]) → w.grownBy w' v.ownBlock → (∀ j, v'.ownBlock = some j → v.ownBlock = some j ∨ w.heap.size ≤ j) → wpList Try.prog ops Q rest (a.put o.dst v') w') : wpList Try.prog ops Q (o :: rest) a w := by
  obtain ⟨i, hi, hz0, hz1, hz2⟩ := info_parts Try.infoEnt
  refine wpList_append_own_at (w := w) hgd s x 67 ho base 64 i _ 2 16 Try.underlying67 hi hz0 hz1 hz2 rfl (by decide) v A.length (A.flatMap entL) hs hown ad 1 1 (entL e) hx rfl hy (by intro u hu; simp only [entL, List.mem_cons, List.not_mem_nil, or_false] at hu; rcases hu with rfl | rfl <;> rfl)
    (by simp only [maxLen]; omega) (by omega) hbase ?_
  intro v' w' h1 h2 h3 h4
  refine h v' w' ?_ h2 fun j hj => ?_
  · unfold OwnE
    rw [List.length_append, flat2_append, show [e].flatMap entL = entL e by simp]
    exact h1
  · rcases h4 with h4 | h4
    · exact .inl (h4 ▸ hj)
    · rw [h4] at hj; injection hj with hj; exact .inr (by omega)
theorem ents_news {w : World} {b off : Nat} {L : List EntV} (h : EntsAt w (some ⟨b, off, none⟩) L) : ∀ j u, (L.flatMap entL)[j]? = some u → w.cell? ((⟨b, off, none⟩ : Addr).add j) = some u := fun j u hj => by
  have hlt := (List.getElem?_eq_some_iff.1 hj).1
  rw [flat2_length] at hlt
  have hi : j / 2 < L.length := by omega
  have c := h.get hi
  have e : j = j / 2 * 2 + j % 2 := by omega
  rw [e, flat2 L _ _ hi (by omega)] at hj
  rw [Addr.add_mid, e, ← Nat.add_assoc]
  exact c.range (j % 2) u hj
set_option maxRecDepth 100000 in
/-- Append: a whole list, onto nothing. -/
theorem wpList_append_ents {w : World} {ops : Array Oper} {rest : List Oper} {o : Oper} {a : Act} {Q : Exit → Act → World → Prop} (hgd : o.guard = none) (s x : Operand)
    (ho : o.op = .call { callee := .builtin .append, args := #[s, x], argTypes := #[67, 67] })
    (hs : a.eval s = .slice none 0 0)
    (ao : Option Addr) (n cap : Nat) (B : List EntV) (hx : a.eval x = .slice ao n cap) (hn : B.length = n) (hb : EntsAt w ao B) (hnil : ao = none → cap = 0)
    (hlen : B.length ≤ 8796093022207)
    (h : ∀ v' w', OwnE w' w.heap.size v' B → Below w.heap.size w w' → wpList Try.prog ops Q rest (a.put o.dst v') w') : wpList Try.prog ops Q (o :: rest) a w := by
  subst hn
  obtain ⟨i, hi, hz0, hz1, hz2⟩ := info_parts Try.infoEnt
  cases ao with
  | none =>
    have h0 : B.length = 0 := by
      rcases Nat.eq_zero_or_pos B.length with h | h
      · exact h
      · obtain ⟨b, off, e, _⟩ := hb 0 h; cases e
    have hbs : B = [] := List.eq_nil_of_length_eq_zero h0
    subst hbs
    rw [hnil rfl] at hx
    refine wpList_append_own_none hgd s x 67 ho w.heap.size 64 i 2 Try.underlying67 hi _ 0 [] hs (OwnE.nil w _) hx ?_
    exact h _ w (OwnE.nil w _) (Below.refl _ _)
  | some ad =>
    have go : ∀ (hne : ∀ j u, (B.flatMap entL)[j]? = some u → w.cell? (ad.add j) = some u), wpList Try.prog ops Q (o :: rest) a w := fun hne => by
      refine wpList_append_own_at (w := w) hgd s x 67 ho w.heap.size 64 i _ 2 16 Try.underlying67 hi hz0 hz1 hz2 rfl (by decide) _ 0 [] hs (OwnE.nil w _) ad B.length cap (B.flatMap entL) hx (flat2_length B) hne (flat2_one B)
        (by simp only [maxLen]; omega) (by omega) (Nat.le_refl _) ?_
      intro v' w' h1 h2 h3 h4
      refine h v' w' ?_ ((Below.refl _ _).grown h2 (Nat.le_refl _) (fun k hk => by cases hk))
      unfold OwnE
      simpa using h1
    by_cases h0 : B.length = 0
    · have hbs : B = [] := List.eq_nil_of_length_eq_zero h0
      subst hbs
      exact go fun j u hj => by simp at hj
    · obtain ⟨b, off, e, -⟩ := hb 0 (by omega)
      obtain rfl := Option.some.inj e
      exact go (ents_news hb)
end Go.Proofs.Ytmkljmljbbijeaa

/-! An index in plain words and in memory; New walked, made, from. -/
namespace Go.Proofs.Ytmkljmljbbijeaa
open Go.RowKit

structure IdxV where
  step : Int
  l : List EntV
  told : Bool
  last : EntV
def lastE (L : List EntV) : EntV := nthE L (L.length - 1)
def BadArg (lsn off : Int) : Prop := lsn < 1 ∨ off < 0 ∨ 2147483647 < off
def BadOrder (X : IdxV) (lsn off : Int) : Prop := X.told = true ∧ (X.last.lsn = 9223372036854775807 ∨ lsn ≠ X.last.lsn + 1 ∨ off ≤ X.last.off)
def LaidE (X : IdxV) (off : Int) : Prop := X.l.length = 0 ∨ X.step ≤ off - (lastE X.l).off
/-- What Add answers, and leaves. -/
def AddIs (X : IdxV) (lsn off : Int) (Y : IdxV) (er : Int) : Prop :=
  (BadArg lsn off ∧ Y = X ∧ er = 1) ∨ (¬ BadArg lsn off ∧ BadOrder X lsn off ∧ Y = X ∧ er = 63) ∨
  (¬ BadArg lsn off ∧ ¬ BadOrder X lsn off ∧ LaidE X off ∧ Y = ⟨X.step, X.l ++ [⟨lsn, off⟩], true, ⟨lsn, off⟩⟩ ∧ er = 0) ∨
  (¬ BadArg lsn off ∧ ¬ BadOrder X lsn off ∧ ¬ LaidE X off ∧ Y = ⟨X.step, X.l, true, ⟨lsn, off⟩⟩ ∧ er = 0)
theorem AddIs.uniq {X : IdxV} {lsn off : Int} {Y Z : IdxV} {a b : Int} (h : AddIs X lsn off Y a) (k : AddIs X lsn off Z b) : Y = Z ∧ a = b := by
  rcases h with ⟨h1, rfl, rfl⟩ | ⟨h1, h2, rfl, rfl⟩ | ⟨h1, h2, h3, rfl, rfl⟩ | ⟨h1, h2, h3, rfl, rfl⟩ <;> rcases k with ⟨k1, rfl, rfl⟩ | ⟨k1, k2, rfl, rfl⟩ | ⟨k1, k2, k3, rfl, rfl⟩ | ⟨k1, k2, k3, rfl, rfl⟩ <;>
    first
    | exact ⟨rfl, rfl⟩
    | contradiction
/-- What always holds of an index. -/
structure IdxOk (X : IdxV) : Prop where
  step : 1 ≤ X.step ∧ X.step ≤ 1048576
  told : X.told = true ↔ 1 ≤ X.l.length
  none : X.told = false → X.last = ⟨0, 0⟩
  low : X.told = true → 1 ≤ X.last.lsn
  lsn : 0 ≤ X.last.lsn ∧ X.last.lsn ≤ 9223372036854775807
  off : 0 ≤ X.last.off ∧ X.last.off ≤ 2147483647
  ent : ∀ i, i < X.l.length → 1 ≤ (nthE X.l i).lsn ∧ (nthE X.l i).lsn ≤ X.last.lsn ∧ 0 ≤ (nthE X.l i).off ∧ (nthE X.l i).off ≤ X.last.off
  rise : ∀ i, i + 1 < X.l.length → (nthE X.l i).lsn < (nthE X.l (i + 1)).lsn ∧ (nthE X.l i).off + X.step ≤ (nthE X.l (i + 1)).off
theorem IdxOk.up {X : IdxV} (h : IdxOk X) : ∀ i, i < X.l.length → (i : Int) ≤ (nthE X.l i).off
  | 0, hi => (h.ent 0 hi).2.2.1
  | i + 1, hi => by
    have h1 := h.up i (by omega)
    have h2 := (h.rise i hi).2
    have h3 := h.step.1
    omega
theorem IdxOk.len {X : IdxV} (h : IdxOk X) : X.l.length ≤ 2147483648 := by
  rcases Nat.eq_zero_or_pos X.l.length with h0 | h0
  · omega
  · have h1 := h.up (X.l.length - 1) (by omega)
    have h2 := (h.ent (X.l.length - 1) (by omega)).2.2.2
    have h3 := h.off.2
    omega
theorem IdxOk.lt {X : IdxV} (h : IdxOk X) : ∀ k i, i + k + 1 < X.l.length → (nthE X.l i).lsn < (nthE X.l (i + k + 1)).lsn
  | 0, i, hi => (h.rise i hi).1
  | k + 1, i, hi => by
    have h1 := h.lt k i (by omega)
    have h2 := (h.rise (i + k + 1) (by omega)).1
    have e : i + (k + 1) + 1 = i + k + 1 + 1 := by omega
    rw [e]
    omega
theorem IdxOk.le {X : IdxV} (h : IdxOk X) {i j : Nat} (hij : i ≤ j) (hj : j < X.l.length) : (nthE X.l i).lsn ≤ (nthE X.l j).lsn := by
  rcases Nat.eq_or_lt_of_le hij with rfl | h1
  · omega
  · have := h.lt (j - i - 1) i (by omega)
    rw [show i + (j - i - 1) + 1 = j by omega] at this
    omega
theorem IdxOk.ole {X : IdxV} (h : IdxOk X) : ∀ k i, i + k < X.l.length → (nthE X.l i).off ≤ (nthE X.l (i + k)).off
  | 0, _, _ => Int.le_refl _
  | k + 1, i, hi => by
    have h1 := h.ole k i (by omega)
    have h2 := (h.rise (i + k) (by omega)).2
    have h3 := h.step.1
    have e : i + (k + 1) = i + k + 1 := by omega
    rw [e]
    omega
def idx0 (step : Int) : IdxV := ⟨step, [], false, ⟨0, 0⟩⟩
theorem idx0_ok {s : Int} (h : 1 ≤ s) (h2 : s ≤ 1048576) : IdxOk (idx0 s) :=
  ⟨⟨h, h2⟩, ⟨fun e => (by cases e), fun e => (by simp [idx0] at e)⟩, fun _ => rfl, fun e => (by cases e), ⟨by simp [idx0], by simp [idx0]⟩, ⟨by simp [idx0], by simp [idx0]⟩, fun i hi => (by simp [idx0] at hi), fun i hi => (by simp [idx0] at hi)⟩
theorem nthE_left {A B : List EntV} {i : Nat} (h : i < A.length) : nthE (A ++ B) i = nthE A i := by simp [nthE, List.getElem?_append_left h]
theorem nthE_last (A : List EntV) (e : EntV) : nthE (A ++ [e]) A.length = e := by simp [nthE]
theorem AddIs.ok {X : IdxV} {lsn off : Int} {Y : IdxV} {er : Int} (h : AddIs X lsn off Y er) (hx : IdxOk X) (hl : lsn ≤ 9223372036854775807) : IdxOk Y := by
  rcases h with ⟨-, rfl, -⟩ | ⟨-, -, rfl, -⟩ | ⟨h1, h2, h3, rfl, -⟩ | ⟨h1, h2, h3, rfl, -⟩
  · exact hx
  · exact hx
  all_goals
    have hlo : X.last.lsn < lsn ∧ (X.told = true → X.last.off < off) := by
      rcases hb : X.told with _ | _
      · have := hx.none hb
        rw [this]
        exact ⟨by unfold BadArg at h1; dsimp only; omega, fun e => by cases e⟩
      · unfold BadOrder at h2
        rw [hb] at h2
        simp only [true_and, not_or] at h2
        exact ⟨by omega, fun _ => by omega⟩
    have hoff : X.last.off ≤ off := by
      rcases hb : X.told with _ | _
      · have := hx.none hb
        rw [this]
        unfold BadArg at h1; dsimp only; omega
      · have := hlo.2 hb; omega
    have hA : 1 ≤ lsn ∧ 0 ≤ off ∧ off ≤ 2147483647 := by unfold BadArg at h1; omega
  · refine ⟨hx.step, ⟨fun _ => (by simp), fun _ => rfl⟩, fun e => (by cases e), fun _ => hA.1, ⟨by dsimp only; omega, hl⟩, ⟨hA.2.1, hA.2.2⟩, fun i hi => ?_, fun i hi => ?_⟩
    · dsimp only at hi ⊢
      rw [List.length_append, List.length_singleton] at hi
      rcases Nat.lt_or_ge i X.l.length with h | h
      · rw [nthE_left h]
        have := hx.ent i h
        omega
      · obtain rfl : i = X.l.length := by omega
        rw [nthE_last]
        dsimp only
        omega
    · dsimp only at hi ⊢
      rw [List.length_append, List.length_singleton] at hi
      rcases Nat.lt_or_ge (i + 1) X.l.length with h | h
      · rw [nthE_left h, nthE_left (by omega)]
        exact hx.rise i h
      · have hl2 : X.l.length = i + 1 := by omega
        have e : nthE (X.l ++ [⟨lsn, off⟩]) (i + 1) = ⟨lsn, off⟩ := by
          have := nthE_last X.l ⟨lsn, off⟩
          rw [hl2] at this
          exact this
        have e2 : lastE X.l = nthE X.l i := by unfold lastE; rw [hl2, Nat.add_sub_cancel]
        rw [e, nthE_left (by omega)]
        unfold LaidE at h3
        rw [e2] at h3
        have := hx.ent i (by omega)
        dsimp only
        omega
  · refine ⟨hx.step, ⟨fun _ => ?_, fun _ => rfl⟩, fun e => (by cases e), fun _ => hA.1, ⟨by dsimp only; omega, hl⟩, ⟨hA.2.1, hA.2.2⟩, fun i hi => ?_, hx.rise⟩
    · unfold LaidE at h3
      dsimp only
      omega
    · have := hx.ent i hi
      dsimp only
      omega

/-- An index in memory: its five cells, its list. -/
structure IdxAt (w : World) (base xb : Nat) (X : IdxV) (ao : Option Addr) (n cap : Nat) : Prop where
  row : w.heap[xb]? = some (.cells #[.int .i64 X.step, .slice ao n cap, .bool X.told, .int .i64 X.last.lsn, .int .i64 X.last.off] 85 (0, 0))
  held : HeldE w base (.slice ao n cap) X.l
  low : base ≤ xb
theorem IdxAt.keep {w w' : World} {base xb : Nat} {X : IdxV} {ao : Option Addr} {n cap : Nat} (h : IdxAt w base xb X ao n cap) (hb : Below w.heap.size w w') : IdxAt w' base xb X ao n cap :=
  ⟨(hb.block _ (heap_lt h.row)).trans h.row, h.held.keep hb, h.low⟩
theorem IdxAt.move {w w' : World} {base xb : Nat} {X : IdxV} {ao : Option Addr} {n cap : Nat} (h : IdxAt w base xb X ao n cap) (hm : ∀ q, q = xb ∨ (Value.slice ao n cap).ownBlock = some q → w'.heap[q]? = w.heap[q]?) : IdxAt w' base xb X ao n cap :=
  ⟨(hm xb (.inl rfl)).trans h.row, held_congr h.held fun q hq => hm q (.inr hq), h.low⟩
/-- What turns an index and its list alone. -/
structure Turned (w w' : World) (xb : Nat) (v v' : Value) : Prop where
  os : w'.os = w.os
  tape : w'.tape = w.tape
  output : w'.output = w.output
  size : w.heap.size ≤ w'.heap.size
  far : ∀ q, q < w.heap.size → q ≠ xb → v.ownBlock ≠ some q → w'.heap[q]? = w.heap[q]?
  who : ∀ j, v'.ownBlock = some j → v.ownBlock = some j ∨ w.heap.size ≤ j
theorem Turned.of_below {w w' : World} (xb : Nat) (v : Value) (h : Below w.heap.size w w') : Turned w w' xb v v :=
  ⟨h.os, h.tape, h.output, h.size, fun q hq _ _ => h.block q hq, fun _ hj => .inl hj⟩
theorem Turned.trans {w w1 w2 : World} {xb : Nat} {v v1 v2 : Value} (h : Turned w w1 xb v v1) (k : Turned w1 w2 xb v1 v2) : Turned w w2 xb v v2 :=
  ⟨k.os.trans h.os, k.tape.trans h.tape, k.output.trans h.output, Nat.le_trans h.size k.size, fun q hq h1 h2 => (k.far q (Nat.lt_of_lt_of_le hq h.size) h1 (fun e => by
    rcases h.who q e with e | e
    · exact h2 e
    · omega)).trans (h.far q hq h1 h2), fun j hj => by
    rcases k.who j hj with e | e
    · exact h.who j e
    · exact .inr (Nat.le_trans h.size e)⟩
theorem Turned.below {w w' : World} {base xb : Nat} {v v' : Value} (h : Turned w w' xb v v') (h1 : base ≤ xb) (h2 : ∀ j, v.ownBlock = some j → base ≤ j) (h3 : base ≤ w.heap.size) : Below base w w' :=
  ⟨h.os, h.tape, h.output, h.size, fun q hq => h.far q (by omega) (by omega) (fun e => by have := h2 q e; omega)⟩

set_option maxRecDepth 100000 in
theorem idx_new_ok (s : Int) (w : World) (h1 : 1 ≤ s) (h2 : s ≤ 1048576) :
    Calls Try.prog 36 #[.int .i64 s] w fun e w' => e = .returned (.tuple #[.pointer (some ⟨w.heap.size, 0, none⟩), .int .i64 0]) ∧ IdxAt w' w.heap.size w.heap.size (idx0 s) none 0 0 ∧ Below w.heap.size w w' := by
  go_enter Try.func36, Try.ntmps36
  go_wp2_with fail
  go_ret2
  exact ⟨rfl, ⟨heap_alloc_new w _, HeldE.nil _ _, Nat.le_refl _⟩, below_alloc _ _⟩
set_option maxRecDepth 100000 in
theorem idx_new_no (s : Int) (w : World) (h : ¬ (1 ≤ s ∧ s ≤ 1048576)) :
    Calls Try.prog 36 #[.int .i64 s] w fun e w' => e = .returned (.tuple #[.pointer none, .int .i64 1]) ∧ w' = w := by
  go_enter Try.func36, Try.ntmps36
  by_cases h1 : 1 ≤ s
  · have h2 : 1048576 < s := by omega
    go_wp2_with fail
    go_ret2
    exact ⟨rfl, rfl⟩
  · go_wp2_with fail
    go_ret2
    exact ⟨rfl, rfl⟩
set_option maxRecDepth 100000 in
theorem idx_made (b : Nat) (s : Int) (t : Bool) (w : World) (hc : w.cell? ⟨b, 0, none⟩ = some (.int .i64 s)) (ht : decide (0 < s) = t) :
    Calls Try.prog 88 #[.pointer (some ⟨b, 0, none⟩)] w fun e w' => e = .returned (.bool t) ∧ w = w' := by
  go_enter Try.func88, Try.ntmps88
  subst ht
  go_wp2_with fail
  go_ret
  exact ⟨rfl, rfl⟩
set_option maxRecDepth 100000 in
theorem idx_made_nil (w : World) :
    Calls Try.prog 88 #[.pointer none] w fun e w' => e = .returned (.bool false) ∧ w = w' := by
  go_enter Try.func88, Try.ntmps88
  go_wp2_with fail
  go_ret
  exact ⟨rfl, rfl⟩

/-- The first at or above. -/
def FromIs (L : List EntV) (lsn : Int) (k : Nat) : Prop := k ≤ L.length ∧ (∀ t, t < k → (nthE L t).lsn < lsn) ∧ ∀ t, k ≤ t → t < L.length → lsn ≤ (nthE L t).lsn
theorem FromIs.uniq {L : List EntV} {lsn : Int} {i j : Nat} (h : FromIs L lsn i) (k : FromIs L lsn j) : i = j := by
  rcases Nat.lt_trichotomy i j with e | e | e
  · have := k.2.1 i e; have := h.2.2 i (Nat.le_refl _) (by have := k.1; omega); omega
  · exact e
  · have := h.2.1 j e; have := k.2.2 j (Nat.le_refl _) (by have := h.1; omega); omega
set_option maxRecDepth 100000 in
theorem idx_from_fn (bx bl xb g n ca i : Nat) (L : List EntV) (lsn : Int) (W : World) (hx : W.cell? ⟨bx, 0, none⟩ = some (.pointer (some ⟨xb, 0, none⟩))) (hl : W.cell? ⟨bl, 0, none⟩ = some (.int .i64 lsn)) (h1 : W.cell? ⟨xb, 1, none⟩ = some (.slice (some ⟨g, 0, none⟩) n ca)) (hc : EntCells W g (i * 2) (nthE L i)) (hi : i < n) :
    Calls Try.prog 108 (#[.int .i64 i] ++ #[.pointer (some ⟨bx, 0, none⟩), .pointer (some ⟨bl, 0, none⟩)]) W fun e w' => e = .returned (.bool (decide (lsn ≤ (nthE L i).lsn))) ∧ ∃ q, w' = W.drewN q := by
  have c0 := hc.c0
  have hiz : (i : Int) < (n : Int) := by omega
  clear hc
  go_enter Try.func108, Try.ntmps108
  go_wp2_with fail
  go_quiet (fail)
  go_wp2_with fail
  go_ret
  exact ⟨rfl, nq, rfl⟩
set_option maxRecDepth 100000 in
set_option maxHeartbeats 2000000 in
theorem idx_from (base xb n ca : Nat) (X : IdxV) (ao : Option Addr) (lsn : Int) (w : World) (H : Hid (IdxAt w base xb X ao n ca)) (ok : Hid (IdxOk X)) :
    Calls Try.prog 89 #[.pointer (some ⟨xb, 0, none⟩), .int .i64 lsn] w fun e w' => ∃ k : Nat, e = .returned (.int .i64 k) ∧ FromIs X.l lsn k ∧ Below w.heap.size w w' := by
  have b1 := below_alloc w (.cells #[.pointer (some ⟨xb, 0, none⟩)] 57)
  have hn1 := heap_alloc_new w (.cells #[.pointer (some ⟨xb, 0, none⟩)] 57)
  obtain ⟨w1, hw1⟩ : ∃ w1, w.alloc (.cells #[.pointer (some ⟨xb, 0, none⟩)] 57) = w1 := ⟨_, rfl⟩
  rw [hw1] at b1 hn1
  have b2 := below_alloc w1 (.cells #[.int .i64 lsn] 2)
  have hn2 := heap_alloc_new w1 (.cells #[.int .i64 lsn] 2)
  obtain ⟨w2, hw2⟩ : ∃ w2, w1.alloc (.cells #[.int .i64 lsn] 2) = w2 := ⟨_, rfl⟩
  rw [hw2] at hn2 b2
  have k0 := cell_keep b2 (cell_of_row _ _ 0 _ _ _ hn1)
  have k1 := cell_of_row _ _ 0 _ _ _ hn2
  have HB2 := Lib.hid (below_trans b1 b2)
  have H2 := Lib.hid (H.out.keep HB2.out)
  have k2 := cell_of_row _ _ 1 _ _ _ H2.out.row
  have K0 := Lib.hid k0
  have K1 := Lib.hid k1
  have HL := Lib.hid H2.out.held.len
  have n64 : (n : Int) ≤ 2147483648 := by have := ok.out.len; have := HL.out.1; omega
  clear b1 b2 hn1 hn2
  go_enter Try.func89, Try.ntmps89
  go_wp2_with fail
  have srch := sort_search 108 #[.pointer (some ⟨w.heap.size, 0, none⟩), .pointer (some ⟨w1.heap.size, 0, none⟩)] n (fun i => decide (lsn ≤ (nthE X.l i).lsn)) w2 (enters_of Try.func108 (by kernel_rfl) rfl) (by omega)
    (fun w' i hb hi => by
      have HI := H2.out.keep hb
      obtain ⟨g, rfl, -, hc, -⟩ := HI.held.get (i := i) (by have := HL.out.1; omega)
      refine (idx_from_fn w.heap.size w1.heap.size xb g n ca i X.l lsn w' (cell_keep hb K0.out) (cell_keep hb K1.out) (cell_of_row _ _ 1 _ _ _ HI.row) hc hi).mono ?_
      rintro e w'' ⟨rfl, q, rfl⟩
      exact ⟨rfl, below_drewN _ _⟩)
    (fun x y hxy hy hp => by
      have h3 := of_decide_eq_true hp
      have h4 := ok.out.le hxy (by have := HL.out.1; omega)
      exact decide_eq_true (by omega))
  refine srch.mono ?_
  rintro e w3 ⟨k, rfl, ⟨hk, h5, h6⟩, hb3⟩
  have F := Lib.hid (show FromIs X.l lsn k from ⟨by have := HL.out.1; omega, fun t ht => by have := of_decide_eq_false (h5 t ht); omega, fun t h7 h8 => of_decide_eq_true (h6 t h7 (by have := HL.out.1; omega))⟩)
  have HB3 := Lib.hid (below_trans HB2.out hb3)
  clear hb3 h5 h6 srch
  go_wp2_with fail
  go_ret
  exact ⟨k, rfl, F.out, HB3.out⟩
end Go.Proofs.Ytmkljmljbbijeaa

/-! The walk of index.Add. -/
namespace Go.Proofs.Ytmkljmljbbijeaa
open Go.RowKit

/-- What Add's drawn regions' reads lean on. -/
structure AddR (xb eb : Nat) (lsn off : Int) (v : Value) (w : World) : Prop where
  x1 : w.cell? ⟨xb, 1, none⟩ = some v
  e0 : w.cell? ⟨eb, 0, none⟩ = some (.int .i64 lsn)
  e1 : w.cell? ⟨eb, 1, none⟩ = some (.int .i64 off)
theorem AddR.below {xb eb : Nat} {lsn off : Int} {v : Value} {w w' : World} (h : AddR xb eb lsn off v w) (hb : Below w.heap.size w w') : AddR xb eb lsn off v w' := ⟨cell_keep hb h.x1, cell_keep hb h.e0, cell_keep hb h.e1⟩
structure EntR (eb : Nat) (lsn off : Int) (w : World) : Prop where
  e0 : w.cell? ⟨eb, 0, none⟩ = some (.int .i64 lsn)
  e1 : w.cell? ⟨eb, 1, none⟩ = some (.int .i64 off)
theorem entR_row {w : World} {eb : Nat} {lsn off : Int} (h : w.heap[eb]? = some (.cells #[.int .i64 lsn, .int .i64 off] 64 (0, 0))) : EntR eb lsn off w := ⟨cell_of_row _ _ 0 _ _ _ h, cell_of_row _ _ 1 _ _ _ h⟩
theorem AddR.mk7 {w : World} {base xb eb : Nat} {X : IdxV} {ao : Option Addr} {n ca : Nat} {lsn off : Int} (h : IdxAt w base xb X ao n ca) (he : w.heap[eb]? = some (.cells #[.int .i64 lsn, .int .i64 off] 64 (0, 0))) : AddR xb eb lsn off (.slice ao n ca) w := ⟨cell_of_row _ _ 1 _ _ _ h.row, cell_of_row _ _ 0 _ _ _ he, cell_of_row _ _ 1 _ _ _ he⟩
theorem ent_new (w : World) (e : EntV) : ∀ j u, (entL e)[j]? = some u → (w.alloc (.cells #[.int .i64 e.lsn, .int .i64 e.off] 64)).cell? ((⟨w.heap.size, 0, none⟩ : Addr).add j) = some u := fun j u hj => by
  have h := heap_alloc_new w (.cells #[.int .i64 e.lsn, .int .i64 e.off] 64)
  have c : EntCells (w.alloc (.cells #[.int .i64 e.lsn, .int .i64 e.off] 64)) w.heap.size 0 e := ⟨cell_of_row _ _ 0 _ _ _ h, cell_of_row _ _ 1 _ _ _ h⟩
  rw [Addr.add_mid]
  exact c.range j u hj
theorem row_set {w : World} {g : Nat} {cs : Array Value} {t : TypeId} (h : w.heap[g]? = some (.cells cs t (0, 0))) (i : Nat) (u : Value) : (w.setCell ⟨g, i, none⟩ u).heap[g]? = some (.cells (cs.setIfInBounds i u) t (0, 0)) := Go.Joins.block_setCell h u
theorem far_set {w : World} {g i q : Nat} {u : Value} (h : q ≠ g) : (w.setCell ⟨g, i, none⟩ u).heap[q]? = w.heap[q]? := Below.heap_setCell _ _ _ _ h
theorem held_ne {w : World} {base xb : Nat} {v : Value} {L : List EntV} {cs : Array Value} {f : Nat × Nat} (h : HeldE w base v L) (hr : w.heap[xb]? = some (.cells cs 85 f)) : v.ownBlock ≠ some xb := fun e => by
  obtain ⟨-, c, hc⟩ := held_blk h e
  rw [hr] at hc
  simp at hc
/-- What the append leaves, ahead of its store and behind it. -/
structure Pushed (w0 w3 : World) (base xb eb : Nat) (X : IdxV) (ao : Option Addr) (n ca : Nat) (e : EntV) (a3 : Option Addr) (n3 c3 : Nat) : Prop where
  row : w3.heap[xb]? = some (.cells #[.int .i64 X.step, .slice ao n ca, .bool X.told, .int .i64 X.last.lsn, .int .i64 X.last.off] 85 (0, 0))
  reads : AddR xb eb e.lsn e.off (.slice ao n ca) w3
  at' : IdxAt (w3.setCell ⟨xb, 1, none⟩ (.slice a3 n3 c3)) base xb ⟨X.step, X.l ++ [e], X.told, X.last⟩ a3 n3 c3
  turned : Turned w0 (w3.setCell ⟨xb, 1, none⟩ (.slice a3 n3 c3)) xb (.slice ao n ca) (.slice a3 n3 c3)
  ent : (w3.setCell ⟨xb, 1, none⟩ (.slice a3 n3 c3)).heap[eb]? = some (.cells #[.int .i64 e.lsn, .int .i64 e.off] 64 (0, 0))
theorem idx_push {w0 w w3 : World} {base xb eb : Nat} {X : IdxV} {ao : Option Addr} {n ca : Nat} {e : EntV} {a3 : Option Addr} {n3 c3 : Nat} (hb : Below w0.heap.size w0 w) (H : IdxAt w base xb X ao n ca) (E : w.heap[eb]? = some (.cells #[.int .i64 e.lsn, .int .i64 e.off] 64 (0, 0)))
    (ne : (Value.slice ao n ca).ownBlock ≠ some eb) (ho : HeldE w3 base (.slice a3 n3 c3) (X.l ++ [e])) (hg : w.grownBy w3 (Value.slice ao n ca).ownBlock) (hw : ∀ j, (Value.slice a3 n3 c3).ownBlock = some j → (Value.slice ao n ca).ownBlock = some j ∨ w0.heap.size ≤ j) : Pushed w0 w3 base xb eb X ao n ca e a3 n3 c3 := by
  have hr : w3.heap[xb]? = some (.cells #[.int .i64 X.step, .slice ao n ca, .bool X.told, .int .i64 X.last.lsn, .int .i64 X.last.off] 85 (0, 0)) := (hg.block xb (heap_lt H.row) (fun e => held_ne H.held H.row e.symm)).trans H.row
  have he : w3.heap[eb]? = some (.cells #[.int .i64 e.lsn, .int .i64 e.off] 64 (0, 0)) := (hg.block eb (heap_lt E) (fun e => ne e.symm)).trans E
  have hxe : eb ≠ xb := fun h => by
    rw [h, hr] at he
    simp at he
  refine ⟨hr, ⟨cell_of_row _ _ 1 _ _ _ hr, cell_of_row _ _ 0 _ _ _ he, cell_of_row _ _ 1 _ _ _ he⟩, ⟨row_set hr 1 _, held_congr ho fun q hq => far_set (fun h => held_ne ho hr (h ▸ hq)), H.low⟩, ⟨?_, ?_, ?_, ?_, fun q hq h1 h2 => ?_, fun j hj => ?_⟩, (far_set hxe).trans he⟩
  · exact (show (w3.setCell ⟨xb, 1, none⟩ (.slice a3 n3 c3)).os = w3.os from rfl).trans (hg.os.trans hb.os)
  · exact (show (w3.setCell ⟨xb, 1, none⟩ (.slice a3 n3 c3)).tape = w3.tape from rfl).trans (hg.tape.trans hb.tape)
  · exact (show (w3.setCell ⟨xb, 1, none⟩ (.slice a3 n3 c3)).output = w3.output from rfl).trans (hg.output.trans hb.output)
  · have : (w3.setCell ⟨xb, 1, none⟩ (.slice a3 n3 c3)).heap.size = w3.heap.size := by simp [World.setCell]
    rw [this]
    exact Nat.le_trans hb.size hg.size
  · exact (far_set h1).trans ((hg.block q (Nat.lt_of_lt_of_le hq hb.size) (fun e => h2 e.symm)).trans (hb.block q hq))
  · exact hw j hj
/-- What the last stores leave. -/
structure Fin9 (w : World) (base xb eb : Nat) (X : IdxV) (ao : Option Addr) (n ca : Nat) (e : EntV) : Prop where
  r0 : w.drew.heap[xb]? = some (.cells #[.int .i64 X.step, .slice ao n ca, .bool X.told, .int .i64 X.last.lsn, .int .i64 X.last.off] 85 (0, 0))
  e0 : EntR eb e.lsn e.off w.drew
  r1 : (w.drew.setCell ⟨xb, 2, none⟩ (.bool true)).heap[xb]? = some (.cells #[.int .i64 X.step, .slice ao n ca, .bool true, .int .i64 X.last.lsn, .int .i64 X.last.off] 85 (0, 0))
  e1 : EntR eb e.lsn e.off (w.drew.setCell ⟨xb, 2, none⟩ (.bool true))
  e2 : EntR eb e.lsn e.off (((w.drew.setCell ⟨xb, 2, none⟩ (.bool true)).setCell ⟨xb, 3, none⟩ (.int .i64 e.lsn)).setCell ⟨xb, 4, none⟩ (.int .i64 e.off))
  at' : IdxAt (((w.drew.setCell ⟨xb, 2, none⟩ (.bool true)).setCell ⟨xb, 3, none⟩ (.int .i64 e.lsn)).setCell ⟨xb, 4, none⟩ (.int .i64 e.off)) base xb ⟨X.step, X.l, true, e⟩ ao n ca
  turned : Turned w (((w.drew.setCell ⟨xb, 2, none⟩ (.bool true)).setCell ⟨xb, 3, none⟩ (.int .i64 e.lsn)).setCell ⟨xb, 4, none⟩ (.int .i64 e.off)) xb (.slice ao n ca) (.slice ao n ca)
theorem idx_fin {w : World} {base xb eb : Nat} {X : IdxV} {ao : Option Addr} {n ca : Nat} {e : EntV} (H : IdxAt w base xb X ao n ca) (E : w.heap[eb]? = some (.cells #[.int .i64 e.lsn, .int .i64 e.off] 64 (0, 0))) (hxe : eb ≠ xb) : Fin9 w base xb eb X ao n ca e := by
  have r0 : w.drew.heap[xb]? = _ := H.row
  have r1 := row_set r0 2 (.bool true)
  have r2 := row_set r1 3 (.int .i64 e.lsn)
  have r3 := row_set r2 4 (.int .i64 e.off)
  have off : ∀ q, q ≠ xb → (((w.drew.setCell ⟨xb, 2, none⟩ (.bool true)).setCell ⟨xb, 3, none⟩ (.int .i64 e.lsn)).setCell ⟨xb, 4, none⟩ (.int .i64 e.off)).heap[q]? = w.heap[q]? := fun q hq => (far_set hq).trans ((far_set hq).trans (far_set (w := w.drew) hq))
  refine ⟨r0, entR_row (w := w.drew) E, r1, entR_row ((far_set (w := w.drew) hxe).trans E), entR_row ((off eb hxe).trans E), ⟨r3, held_congr H.held fun q hq => off q (fun h => held_ne H.held H.row (h ▸ hq)), H.low⟩, ⟨rfl, rfl, rfl, ?_, fun q _ h1 _ => off q h1, fun j hj => .inl hj⟩⟩
  have sz : ∀ (W : World) (a : Addr) (u : Value), (W.setCell a u).heap.size = W.heap.size := fun W a u => by simp [World.setCell]
  rw [sz, sz, sz]
  exact Nat.le_refl _

set_option maxRecDepth 100000 in
set_option maxHeartbeats 4000000 in
/-- Add, ahead of which nothing was told. -/
theorem idx_add_first (base xb n ca : Nat) (st : Int) (L : List EntV) (ao : Option Addr) (lsn off : Int) (w : World) (H : Hid (IdxAt w base xb ⟨st, L, false, ⟨0, 0⟩⟩ ao n ca)) (ok : Hid (IdxOk ⟨st, L, false, ⟨0, 0⟩⟩)) (HB : Hid (base ≤ w.heap.size)) (h1 : 1 ≤ lsn) (h2 : 0 ≤ off) (h3 : off ≤ 2147483647) :
    Calls Try.prog 37 #[.pointer (some ⟨xb, 0, none⟩), .int .i64 lsn, .int .i64 off] w fun e w' => ∃ ao' n' ca', e = .returned (.int .i64 0) ∧ IdxAt w' base xb ⟨st, L ++ [⟨lsn, off⟩], true, ⟨lsn, off⟩⟩ ao' n' ca' ∧ Turned w w' xb (.slice ao n ca) (.slice ao' n' ca') := by
  have hL0 : L.length = 0 := by have := ok.out.told; simp at this; simp [this]
  obtain rfl : n = 0 := by have := H.out.held.len.1; dsimp only at this; omega
  have HLL : Hid ((⟨st, L, false, ⟨0, 0⟩⟩ : IdxV).l.length ≤ 8796093022207) := Lib.hid (by dsimp only; omega)
  have b1 := below_alloc w (.cells #[.int .i64 lsn, .int .i64 off] 64)
  have n1 := heap_alloc_new w (.cells #[.int .i64 lsn, .int .i64 off] 64)
  obtain ⟨w1, hw1⟩ : ∃ w1, w.alloc (.cells #[.int .i64 lsn, .int .i64 off] 64) = w1 := ⟨_, rfl⟩
  rw [hw1] at b1 n1
  have B1 := Lib.hid b1
  have E1 := Lib.hid n1
  have H1 := Lib.hid (H.out.keep b1)
  have NE := Lib.hid (show (Value.slice ao 0 ca).ownBlock ≠ some w.heap.size from fun e => by
    obtain ⟨-, c, hc⟩ := held_blk H.out.held e
    have := heap_lt hc; omega)
  have IN := Lib.hid (show w.heap.size ≠ xb from fun e => by have := heap_lt H.out.row; omega)
  have x0 := cell_of_row _ _ 0 _ _ _ H.out.row
  have x2 := cell_of_row _ _ 2 _ _ _ H.out.row
  have x1 := cell_of_row _ _ 1 _ _ _ H1.out.row
  have t1 : decide (lsn < 1) = false := decide_eq_false (by omega)
  have t2 : decide (off < 0) = false := decide_eq_false (by omega)
  have t3 : decide (2147483647 < off) = false := decide_eq_false (by omega)
  have st0 := ok.out.step.1
  dsimp only at x0 x1 x2 st0
  clear b1 n1 h1 h2 h3 hL0
  go_enter Try.func37, Try.ntmps37
  go_wp2_with fail
  refine (idx_made xb st true w x0 (decide_eq_true (by omega))).mono ?_
  rintro e w' ⟨rfl, rfl⟩
  go_wp2_with fail
  go_quiet (fail)
  obtain ⟨w7, hw7⟩ : ∃ w7, w1.drewN nq = w7 := ⟨_, rfl⟩
  rw [hw7]
  have b7 : Below w1.heap.size w1 w7 := by rw [← hw7]; exact below_drewN _ _
  have B7 := Lib.hid (below_trans B1.out b7)
  have H7 := Lib.hid (H1.out.keep b7)
  have E7 := Lib.hid ((b7.block _ (heap_lt E1.out)).trans E1.out)
  clear b7 hw7 x0 x1 x2 H1 E1
  go_wp2_with fail
  have q0 : ∀ p : In (AddR xb w.heap.size lsn off (.slice ao 0 ca)), p.w.cell? ⟨xb, 1, none⟩ = some (.slice ao 0 ca) := fun p => p.h.x1
  have q1 : ∀ p : In (AddR xb w.heap.size lsn off (.slice ao 0 ca)), p.w.cell? ⟨w.heap.size, 0, none⟩ = some (.int .i64 lsn) := fun p => p.h.e0
  have q2 : ∀ p : In (AddR xb w.heap.size lsn off (.slice ao 0 ca)), p.w.cell? ⟨w.heap.size, 1, none⟩ = some (.int .i64 off) := fun p => p.h.e1
  refine wp_region_mixed_tail [0, 1, 2, 3, 4, 5, 6, 7, 8, 9] 10 (AddR xb w.heap.size lsn off (.slice ao 0 ca)) (by kernel_rfl) (by kernel_rfl) (by intro c a d v w h; cases d <;> exact h) ((AddR.mk7 H7.out E7.out).below (below_drew _)) ?_
  intro hne
  simp only [pick, List.map_cons, List.map_nil, List.getD_cons_zero, List.getD_cons_succ, List.drop_succ_cons, List.drop_zero]
  refine wpMix_reads 6 _ (by kernel_rfl) ?_
  simp only [List.take_succ_cons, List.take_zero, List.drop_succ_cons, List.drop_zero]
  repeat (go_big_quiet_step (fail))
  refine wpQuiet_nil ?_
  refine wpMix_act rfl ?_ rfl
  go_wp2_with fail
  have B8 := Lib.hid (below_trans (below_drew w7) (below_alloc w7.drew (.cells #[.int .i64 lsn, .int .i64 off] 64)))
  have NC := Lib.hid (ent_new w7.drew ⟨lsn, off⟩)
  have H8 := Lib.hid (H7.out.keep B8.out)
  have E8 := Lib.hid ((B8.out.block _ (heap_lt E7.out)).trans E7.out)
  refine ⟨⟨⟨_, AddR.mk7 H8.out E8.out⟩, rfl⟩, ?_⟩
  refine wpMix_act rfl ?_ rfl
  go_wp2_with (refine wpList_append_held (o := ⟨some 90, _, _, _, _, _⟩) rfl _ _ rfl base (.slice ao 0 ca) _ rfl H8.out.held _ ⟨lsn, off⟩ rfl NC.out HLL.out (Nat.le_trans HB.out (Nat.le_trans B7.out.size B8.out.size)) ?_)
  intro v3 w3 ho3 hg3 hw3
  obtain ⟨a3, c3, hv3, -⟩ := ho3.shape
  obtain ⟨n3, hn3⟩ : ∃ n3, ((⟨st, L, false, ⟨0, 0⟩⟩ : IdxV).l ++ [(⟨lsn, off⟩ : EntV)]).length = n3 := ⟨_, rfl⟩
  rw [show ((⟨st, L, false, ⟨0, 0⟩⟩ : IdxV).l ++ [(⟨lsn, off⟩ : EntV)]).length = n3 from hn3] at hv3
  subst hv3
  have P3 := Lib.hid (idx_push (below_trans B7.out B8.out) H8.out E8.out NE.out ho3 hg3 (fun j hj => (hw3 j hj).imp id fun h => by have := B7.out.size; omega))
  have k1 := cell_of_row _ _ 1 _ _ _ P3.out.row
  have f1 := frozen_of_row _ _ 1 _ _ P3.out.row
  clear ho3 hg3 hw3 hn3
  go_wp2_with fail
  refine ⟨⟨⟨_, P3.out.reads⟩, rfl⟩, ?_⟩
  refine wpMix_reads 2 _ (by kernel_rfl) ?_
  simp only [List.take_succ_cons, List.take_zero, List.drop_succ_cons, List.drop_zero]
  repeat (go_big_quiet_step (fail))
  refine wpQuiet_nil ?_
  refine wpMix_nil ?_
  clear hne q0 q1 q2
  change wpList _ _ _ _ _ _
  go_wp2_with fail
  have IA := Lib.hid P3.out.at'
  have IE := Lib.hid P3.out.ent
  have IT := Lib.hid P3.out.turned
  clear k1 f1
  have q0 : ∀ p : In (EntR w.heap.size lsn off), p.w.cell? ⟨w.heap.size, 0, none⟩ = some (.int .i64 lsn) := fun p => p.h.e0
  have q1 : ∀ p : In (EntR w.heap.size lsn off), p.w.cell? ⟨w.heap.size, 1, none⟩ = some (.int .i64 off) := fun p => p.h.e1
  have F9 := Lib.hid (idx_fin (e := ⟨lsn, off⟩) IA.out IE.out IN.out)
  have k2 := cell_of_row _ _ 2 _ _ _ P3.out.row
  have f2 := frozen_of_row _ _ 2 _ _ P3.out.row
  refine wp_region_mixed [0, 1, 2, 3, 4, 5, 6, 7, 8] (EntR w.heap.size lsn off) (by kernel_rfl) (by kernel_rfl) (by intro c a d v w h; cases d <;> exact h) F9.out.e0 ?_
  intro hne
  simp only [pick, List.map_cons, List.map_nil, List.getD_cons_zero, List.getD_cons_succ]
  refine wpMix_reads 5 _ (by kernel_rfl) ?_
  simp only [List.take_succ_cons, List.take_zero, List.drop_succ_cons, List.drop_zero]
  repeat (go_big_quiet_step (fail))
  refine wpQuiet_nil ?_
  refine wpMix_act rfl ?_ rfl
  go_wp2_with fail
  refine ⟨⟨⟨_, F9.out.e1⟩, rfl⟩, ?_⟩
  refine wpMix_reads 2 _ (by kernel_rfl) ?_
  simp only [List.take_succ_cons, List.take_zero, List.drop_succ_cons, List.drop_zero]
  repeat (go_big_quiet_step (fail))
  refine wpQuiet_nil ?_
  refine wpMix_act rfl ?_ rfl
  clear k2 f2
  have k3 := cell_of_row _ _ 3 _ _ _ P3.out.row
  have k4 := cell_of_row _ _ 4 _ _ _ P3.out.row
  have f3 := frozen_of_row _ _ 3 _ _ P3.out.row
  have f4 := frozen_of_row _ _ 4 _ _ P3.out.row
  go_wp2_with fail
  refine ⟨⟨⟨_, F9.out.e2⟩, rfl⟩, ?_⟩
  refine wpMix_nil ?_
  clear hne q0 q1 k3 k4 f3 f4
  go_wp2_with fail
  go_ret
  exact ⟨a3, n3, c3, rfl, F9.out.at', IT.out.trans F9.out.turned⟩
set_option maxRecDepth 100000 in
set_option maxHeartbeats 4000000 in
/-- Add, refused for its arguments. -/
theorem idx_add_arg (xb : Nat) (st lsn off : Int) (w : World) (x0 : w.cell? ⟨xb, 0, none⟩ = some (.int .i64 st)) (hs : 1 ≤ st) (h : BadArg lsn off) :
    Calls Try.prog 37 #[.pointer (some ⟨xb, 0, none⟩), .int .i64 lsn, .int .i64 off] w fun e w' => e = .returned (.int .i64 1) ∧ w = w' := by
  have HH := Lib.hid h
  clear h
  go_enter Try.func37, Try.ntmps37
  go_wp2_with fail
  refine (idx_made xb st true w x0 (decide_eq_true (by omega))).mono ?_
  rintro e w' ⟨rfl, rfl⟩
  rcases HH.out with h | h | h
  · go_wp2_with fail
    go_ret
    exact ⟨rfl, rfl⟩
  · by_cases h1 : lsn < 1
    · go_wp2_with fail
      go_ret
      exact ⟨rfl, rfl⟩
    · have t1 : decide (lsn < 1) = false := decide_eq_false h1
      clear h1
      go_wp2_with fail
      go_ret
      exact ⟨rfl, rfl⟩
  · have h2 : ¬ off < 0 := by omega
    have t2 : decide (off < 0) = false := decide_eq_false h2
    have t3 : decide (2147483647 < off) = true := decide_eq_true h
    clear h2 h
    by_cases h1 : lsn < 1
    · go_wp2_with fail
      go_ret
      exact ⟨rfl, rfl⟩
    · have t1 : decide (lsn < 1) = false := decide_eq_false h1
      clear h1
      go_wp2_with fail
      go_ret
      exact ⟨rfl, rfl⟩
set_option maxRecDepth 100000 in
set_option maxHeartbeats 4000000 in
/-- Add, refused for the order. -/
theorem idx_add_order (xb : Nat) (st ll lo lsn off : Int) (w : World) (x0 : w.cell? ⟨xb, 0, none⟩ = some (.int .i64 st)) (x2 : w.cell? ⟨xb, 2, none⟩ = some (.bool true)) (x3 : w.cell? ⟨xb, 3, none⟩ = some (.int .i64 ll)) (x4 : w.cell? ⟨xb, 4, none⟩ = some (.int .i64 lo))
    (hs : 1 ≤ st) (r : 0 ≤ ll ∧ ll ≤ 9223372036854775807) (h1 : 1 ≤ lsn) (h2 : 0 ≤ off) (h3 : off ≤ 2147483647) (h : ll = 9223372036854775807 ∨ lsn ≠ ll + 1 ∨ off ≤ lo) :
    Calls Try.prog 37 #[.pointer (some ⟨xb, 0, none⟩), .int .i64 lsn, .int .i64 off] w fun e w' => e = .returned (.int .i64 63) ∧ w = w' := by
  have HH := Lib.hid h
  have RR := Lib.hid r
  have t1 : decide (lsn < 1) = false := decide_eq_false (by omega)
  have t2 : decide (off < 0) = false := decide_eq_false (by omega)
  have t3 : decide (2147483647 < off) = false := decide_eq_false (by omega)
  clear h r h1 h2 h3
  go_enter Try.func37, Try.ntmps37
  go_wp2_with fail
  refine (idx_made xb st true w x0 (decide_eq_true (by omega))).mono ?_
  rintro e w' ⟨rfl, rfl⟩
  by_cases q1 : ll = 9223372036854775807
  · have z1 : (ll == 9223372036854775807) = true := by simp [q1]
    clear q1
    go_wp2_with fail
    go_ret
    exact ⟨rfl, rfl⟩
  · have z1 : (ll == 9223372036854775807) = false := by simp [q1]
    have z2 : IntKind.i64.wrap (ll + 1) = ll + 1 := IntWalk.i64_in _ (by have := RR.out; omega)
    by_cases q2 : lsn = ll + 1
    · have z3 : (lsn != ll + 1) = false := by simp [q2]
      have z4 : decide (off ≤ lo) = true := decide_eq_true (by have := HH.out; omega)
      clear q1 q2
      go_wp2_with fail
      go_ret
      exact ⟨rfl, rfl⟩
    · have z3 : (lsn != ll + 1) = true := by simp [q2]
      clear q1 q2
      go_wp2_with fail
      go_ret
      exact ⟨rfl, rfl⟩
def MoreB (w : World) (base xb : Nat) (st : Int) (L : List EntV) (lsn off : Int) (v : Value) (e : Ending) (w' : World) : Prop :=
  ∃ L' ao' n' ca', (st ≤ off - (lastE L).off ∧ L' = L ++ [⟨lsn, off⟩] ∨ ¬ st ≤ off - (lastE L).off ∧ L' = L) ∧ e = .returned (.int .i64 0) ∧ IdxAt w' base xb ⟨st, L', true, ⟨lsn, off⟩⟩ ao' n' ca' ∧ Turned w w' xb v (.slice ao' n' ca')
set_option maxRecDepth 100000 in
set_option maxHeartbeats 8000000 in
/-- Add, behind what was told. -/
theorem idx_add_more (base xb n ca : Nat) (st ll lo : Int) (L : List EntV) (ao : Option Addr) (lsn off : Int) (w : World) (H : Hid (IdxAt w base xb ⟨st, L, true, ⟨ll, lo⟩⟩ ao n ca)) (ok : Hid (IdxOk ⟨st, L, true, ⟨ll, lo⟩⟩)) (HB : Hid (base ≤ w.heap.size)) (h1 : 1 ≤ lsn) (h2 : 0 ≤ off) (h3 : off ≤ 2147483647)
    (g1 : ll ≠ 9223372036854775807) (g2 : lsn = ll + 1) (g3 : lo < off) :
    Calls Try.prog 37 #[.pointer (some ⟨xb, 0, none⟩), .int .i64 lsn, .int .i64 off] w (MoreB w base xb st L lsn off (.slice ao n ca)) := by
  have hL0 : 1 ≤ L.length := ok.out.told.1 rfl
  have hn0 := H.out.held.len.1
  dsimp only at hn0
  obtain ⟨m, rfl⟩ : ∃ m, n = m + 1 := ⟨n - 1, by omega⟩
  have HN := Lib.hid hn0
  have HLL : Hid ((⟨st, L, true, ⟨ll, lo⟩⟩ : IdxV).l.length ≤ 8796093022207) := Lib.hid (by have := ok.out.len; omega)
  have HE := Lib.hid (ok.out.ent m (by dsimp only; omega))
  obtain ⟨e0, he0⟩ : ∃ e0, nthE L m = e0 := ⟨_, rfl⟩
  have HL1 := Lib.hid (show lastE L = e0 from by unfold lastE; rw [hn0, Nat.add_sub_cancel, he0])
  have b1 := below_alloc w (.cells #[.int .i64 lsn, .int .i64 off] 64)
  have n1 := heap_alloc_new w (.cells #[.int .i64 lsn, .int .i64 off] 64)
  obtain ⟨w1, hw1⟩ : ∃ w1, w.alloc (.cells #[.int .i64 lsn, .int .i64 off] 64) = w1 := ⟨_, rfl⟩
  rw [hw1] at b1 n1
  have B1 := Lib.hid b1
  have E1 := Lib.hid n1
  have H1 := Lib.hid (H.out.keep b1)
  obtain ⟨g, rfl, -, hc, -⟩ := H1.out.held.get (i := m) (by dsimp only; omega)
  have c1 : w1.cell? ⟨g, m * 2 + 1, none⟩ = some (.int .i64 e0.off) := by rw [← he0]; exact hc.c1
  have he := HE.out
  dsimp only at he
  rw [he0] at he
  have NE := Lib.hid (show (Value.slice (some ⟨g, 0, none⟩) (m + 1) ca).ownBlock ≠ some w.heap.size from fun e => by
    obtain ⟨-, c, hc⟩ := held_blk H.out.held e
    have := heap_lt hc; omega)
  have IN := Lib.hid (show w.heap.size ≠ xb from fun e => by have := heap_lt H.out.row; omega)
  have x0 := cell_of_row _ _ 0 _ _ _ H.out.row
  have x2 := cell_of_row _ _ 2 _ _ _ H.out.row
  have x3 := cell_of_row _ _ 3 _ _ _ H.out.row
  have x4 := cell_of_row _ _ 4 _ _ _ H.out.row
  have y0 := cell_of_row _ _ 0 _ _ _ H1.out.row
  have y1 := cell_of_row _ _ 1 _ _ _ H1.out.row
  have t1 : decide (lsn < 1) = false := decide_eq_false (by omega)
  have t2 : decide (off < 0) = false := decide_eq_false (by omega)
  have t3 : decide (2147483647 < off) = false := decide_eq_false (by omega)
  have st0 := ok.out.step.1
  have lr := ok.out.lsn
  dsimp only at x0 x2 x3 x4 y0 y1 st0 lr
  have z1 : (ll == 9223372036854775807) = false := by simp [g1]
  have z2 : IntKind.i64.wrap (ll + 1) = ll + 1 := IntWalk.i64_in _ (by omega)
  have z3 : (lsn != ll + 1) = false := by simp [g2]
  have z4 : decide (off ≤ lo) = false := decide_eq_false (by omega)
  have z5 : IntKind.i64.wrap (off - e0.off) = off - e0.off := IntWalk.i64_in _ (by omega)
  have z6 : ((m : Int) + 1 == 0) = false := by simp; omega
  have mz : (m : Int) ≤ 2147483648 := by have := ok.out.len; dsimp only at this; omega
  clear b1 n1 h1 h2 h3 hL0 g1 g2 g3 hn0 he he0 hc lr
  go_enter Try.func37, Try.ntmps37
  go_wp2_with fail
  refine (idx_made xb st true w x0 (decide_eq_true (by omega))).mono ?_
  rintro e w' ⟨rfl, rfl⟩
  by_cases hl : st ≤ off - e0.off
  · have HD := Lib.hid hl
    go_wp2_with fail
    go_quiet (fail)
    obtain ⟨w7, hw7⟩ : ∃ w7, w1.drewN nq = w7 := ⟨_, rfl⟩
    rw [hw7]
    have b7 : Below w1.heap.size w1 w7 := by rw [← hw7]; exact below_drewN _ _
    have B7 := Lib.hid (below_trans B1.out b7)
    have H7 := Lib.hid (H1.out.keep b7)
    have E7 := Lib.hid ((b7.block _ (heap_lt E1.out)).trans E1.out)
    clear b7 hw7 x0 x2 x3 x4 y0 y1 c1 H1 E1 z1 z2 z3 z4 z5 z6 hl
    go_wp2_with fail
    have q0 : ∀ p : In (AddR xb w.heap.size lsn off (.slice (some ⟨g, 0, none⟩) (m + 1) ca)), p.w.cell? ⟨xb, 1, none⟩ = some (.slice (some ⟨g, 0, none⟩) (m + 1) ca) := fun p => p.h.x1
    have q1 : ∀ p : In (AddR xb w.heap.size lsn off (.slice (some ⟨g, 0, none⟩) (m + 1) ca)), p.w.cell? ⟨w.heap.size, 0, none⟩ = some (.int .i64 lsn) := fun p => p.h.e0
    have q2 : ∀ p : In (AddR xb w.heap.size lsn off (.slice (some ⟨g, 0, none⟩) (m + 1) ca)), p.w.cell? ⟨w.heap.size, 1, none⟩ = some (.int .i64 off) := fun p => p.h.e1
    refine wp_region_mixed_tail [0, 1, 2, 3, 4, 5, 6, 7, 8, 9] 10 (AddR xb w.heap.size lsn off (.slice (some ⟨g, 0, none⟩) (m + 1) ca)) (by kernel_rfl) (by kernel_rfl) (by intro c a d v w h; cases d <;> exact h) ((AddR.mk7 H7.out E7.out).below (below_drew _)) ?_
    intro hne
    simp only [pick, List.map_cons, List.map_nil, List.getD_cons_zero, List.getD_cons_succ, List.drop_succ_cons, List.drop_zero]
    refine wpMix_reads 6 _ (by kernel_rfl) ?_
    simp only [List.take_succ_cons, List.take_zero, List.drop_succ_cons, List.drop_zero]
    repeat (go_big_quiet_step (fail))
    refine wpQuiet_nil ?_
    refine wpMix_act rfl ?_ rfl
    go_wp2_with fail
    have B8 := Lib.hid (below_trans (below_drew w7) (below_alloc w7.drew (.cells #[.int .i64 lsn, .int .i64 off] 64)))
    have NC := Lib.hid (ent_new w7.drew ⟨lsn, off⟩)
    have H8 := Lib.hid (H7.out.keep B8.out)
    have E8 := Lib.hid ((B8.out.block _ (heap_lt E7.out)).trans E7.out)
    refine ⟨⟨⟨_, AddR.mk7 H8.out E8.out⟩, rfl⟩, ?_⟩
    refine wpMix_act rfl ?_ rfl
    go_wp2_with (refine wpList_append_held (o := ⟨some 90, _, _, _, _, _⟩) rfl _ _ rfl base (.slice (some ⟨g, 0, none⟩) (m + 1) ca) _ rfl H8.out.held _ ⟨lsn, off⟩ rfl NC.out HLL.out (Nat.le_trans HB.out (Nat.le_trans B7.out.size B8.out.size)) ?_)
    intro v3 w3 ho3 hg3 hw3
    obtain ⟨a3, c3, hv3, -⟩ := ho3.shape
    obtain ⟨n3, hn3⟩ : ∃ n3, ((⟨st, L, true, ⟨ll, lo⟩⟩ : IdxV).l ++ [(⟨lsn, off⟩ : EntV)]).length = n3 := ⟨_, rfl⟩
    rw [show ((⟨st, L, true, ⟨ll, lo⟩⟩ : IdxV).l ++ [(⟨lsn, off⟩ : EntV)]).length = n3 from hn3] at hv3
    subst hv3
    have P3 := Lib.hid (idx_push (below_trans B7.out B8.out) H8.out E8.out NE.out ho3 hg3 (fun j hj => (hw3 j hj).imp id fun h => by have := B7.out.size; omega))
    have k1 := cell_of_row _ _ 1 _ _ _ P3.out.row
    have f1 := frozen_of_row _ _ 1 _ _ P3.out.row
    clear ho3 hg3 hw3 hn3
    go_wp2_with fail
    refine ⟨⟨⟨_, P3.out.reads⟩, rfl⟩, ?_⟩
    refine wpMix_reads 2 _ (by kernel_rfl) ?_
    simp only [List.take_succ_cons, List.take_zero, List.drop_succ_cons, List.drop_zero]
    repeat (go_big_quiet_step (fail))
    refine wpQuiet_nil ?_
    refine wpMix_nil ?_
    clear hne q0 q1 q2
    change wpList _ _ _ _ _ _
    go_wp2_with fail
    have IA := Lib.hid P3.out.at'
    have IE := Lib.hid P3.out.ent
    have IT := Lib.hid P3.out.turned
    clear k1 f1
    have q0 : ∀ p : In (EntR w.heap.size lsn off), p.w.cell? ⟨w.heap.size, 0, none⟩ = some (.int .i64 lsn) := fun p => p.h.e0
    have q1 : ∀ p : In (EntR w.heap.size lsn off), p.w.cell? ⟨w.heap.size, 1, none⟩ = some (.int .i64 off) := fun p => p.h.e1
    have F9 := Lib.hid (idx_fin (e := ⟨lsn, off⟩) IA.out IE.out IN.out)
    have k2 := cell_of_row _ _ 2 _ _ _ P3.out.row
    have f2 := frozen_of_row _ _ 2 _ _ P3.out.row
    refine wp_region_mixed [0, 1, 2, 3, 4, 5, 6, 7, 8] (EntR w.heap.size lsn off) (by kernel_rfl) (by kernel_rfl) (by intro c a d v w h; cases d <;> exact h) F9.out.e0 ?_
    intro hne
    simp only [pick, List.map_cons, List.map_nil, List.getD_cons_zero, List.getD_cons_succ]
    refine wpMix_reads 5 _ (by kernel_rfl) ?_
    simp only [List.take_succ_cons, List.take_zero, List.drop_succ_cons, List.drop_zero]
    repeat (go_big_quiet_step (fail))
    refine wpQuiet_nil ?_
    refine wpMix_act rfl ?_ rfl
    go_wp2_with fail
    refine ⟨⟨⟨_, F9.out.e1⟩, rfl⟩, ?_⟩
    refine wpMix_reads 2 _ (by kernel_rfl) ?_
    simp only [List.take_succ_cons, List.take_zero, List.drop_succ_cons, List.drop_zero]
    repeat (go_big_quiet_step (fail))
    refine wpQuiet_nil ?_
    refine wpMix_act rfl ?_ rfl
    clear k2 f2
    have k3 := cell_of_row _ _ 3 _ _ _ P3.out.row
    have k4 := cell_of_row _ _ 4 _ _ _ P3.out.row
    have f3 := frozen_of_row _ _ 3 _ _ P3.out.row
    have f4 := frozen_of_row _ _ 4 _ _ P3.out.row
    go_wp2_with fail
    refine ⟨⟨⟨_, F9.out.e2⟩, rfl⟩, ?_⟩
    refine wpMix_nil ?_
    clear hne q0 q1 k3 k4 f3 f4
    go_wp2_with fail
    go_ret
    exact ⟨_, a3, n3, c3, .inl ⟨by rw [HL1.out]; exact HD.out, rfl⟩, rfl, F9.out.at', IT.out.trans F9.out.turned⟩
  · have HD := Lib.hid hl
    have hl2 : decide (st ≤ off - e0.off) = false := decide_eq_false hl
    clear hl
    go_wp2_with fail
    go_quiet (fail)
    obtain ⟨w7, hw7⟩ : ∃ w7, w1.drewN nq = w7 := ⟨_, rfl⟩
    rw [hw7]
    have b7 : Below w1.heap.size w1 w7 := by rw [← hw7]; exact below_drewN _ _
    have B7 := Lib.hid (below_trans B1.out b7)
    have IA := Lib.hid (H1.out.keep b7)
    have IE := Lib.hid ((b7.block _ (heap_lt E1.out)).trans E1.out)
    clear b7 hw7 x0 x2 x3 x4 y0 y1 c1 H1 E1 z1 z2 z3 z4 z5 z6 hl2
    go_wp2_with fail
    have q0 : ∀ p : In (EntR w.heap.size lsn off), p.w.cell? ⟨w.heap.size, 0, none⟩ = some (.int .i64 lsn) := fun p => p.h.e0
    have q1 : ∀ p : In (EntR w.heap.size lsn off), p.w.cell? ⟨w.heap.size, 1, none⟩ = some (.int .i64 off) := fun p => p.h.e1
    have F9 := Lib.hid (idx_fin (e := ⟨lsn, off⟩) IA.out IE.out IN.out)
    have k2 := cell_of_row _ _ 2 _ _ _ IA.out.row
    have f2 := frozen_of_row _ _ 2 _ _ IA.out.row
    refine wp_region_mixed [0, 1, 2, 3, 4, 5, 6, 7, 8] (EntR w.heap.size lsn off) (by kernel_rfl) (by kernel_rfl) (by intro c a d v w h; cases d <;> exact h) F9.out.e0 ?_
    intro hne
    simp only [pick, List.map_cons, List.map_nil, List.getD_cons_zero, List.getD_cons_succ]
    refine wpMix_reads 5 _ (by kernel_rfl) ?_
    simp only [List.take_succ_cons, List.take_zero, List.drop_succ_cons, List.drop_zero]
    repeat (go_big_quiet_step (fail))
    refine wpQuiet_nil ?_
    refine wpMix_act rfl ?_ rfl
    go_wp2_with fail
    refine ⟨⟨⟨_, F9.out.e1⟩, rfl⟩, ?_⟩
    refine wpMix_reads 2 _ (by kernel_rfl) ?_
    simp only [List.take_succ_cons, List.take_zero, List.drop_succ_cons, List.drop_zero]
    repeat (go_big_quiet_step (fail))
    refine wpQuiet_nil ?_
    refine wpMix_act rfl ?_ rfl
    clear k2 f2
    have k3 := cell_of_row _ _ 3 _ _ _ IA.out.row
    have k4 := cell_of_row _ _ 4 _ _ _ IA.out.row
    have f3 := frozen_of_row _ _ 3 _ _ IA.out.row
    have f4 := frozen_of_row _ _ 4 _ _ IA.out.row
    go_wp2_with fail
    refine ⟨⟨⟨_, F9.out.e2⟩, rfl⟩, ?_⟩
    refine wpMix_nil ?_
    clear hne q0 q1 k3 k4 f3 f4
    go_wp2_with fail
    go_ret
    exact ⟨_, _, _, _, .inr ⟨by rw [HL1.out]; have := HD.out; omega, rfl⟩, rfl, F9.out.at', (Turned.of_below _ _ B7.out).trans F9.out.turned⟩
/-- Add. -/
theorem idx_add (base xb n ca : Nat) (X : IdxV) (ao : Option Addr) (lsn off : Int) (w : World) (H : Hid (IdxAt w base xb X ao n ca)) (ok : Hid (IdxOk X)) (HB : Hid (base ≤ w.heap.size)) :
    Calls Try.prog 37 #[.pointer (some ⟨xb, 0, none⟩), .int .i64 lsn, .int .i64 off] w fun e w' => ∃ Y er ao' n' ca', AddIs X lsn off Y er ∧ e = .returned (.int .i64 er) ∧ IdxAt w' base xb Y ao' n' ca' ∧ Turned w w' xb (.slice ao n ca) (.slice ao' n' ca') := by
  obtain ⟨st, L, t, ⟨ll, lo⟩⟩ := X
  by_cases hA : BadArg lsn off
  · refine (idx_add_arg xb st lsn off w (cell_of_row _ _ 0 _ _ _ H.out.row) ok.out.step.1 hA).mono ?_
    rintro e w' ⟨rfl, rfl⟩
    exact ⟨_, _, _, _, _, .inl ⟨hA, rfl, rfl⟩, rfl, H.out, Turned.of_below _ _ (Below.refl _ _)⟩
  · have hA2 : 1 ≤ lsn ∧ 0 ≤ off ∧ off ≤ 2147483647 := by unfold BadArg at hA; omega
    cases t with
    | false =>
      have hz : (⟨ll, lo⟩ : EntV) = ⟨0, 0⟩ := ok.out.none rfl
      injection hz with hz1 hz2
      subst hz1 hz2
      have hl : L.length = 0 := by
        rcases Nat.eq_zero_or_pos L.length with h | h
        · exact h
        · have := ok.out.told.2 h; cases this
      refine (idx_add_first base xb n ca st L ao lsn off w H ok HB hA2.1 hA2.2.1 hA2.2.2).mono ?_
      rintro e w' ⟨ao', n', ca', rfl, h1, h2⟩
      exact ⟨_, _, _, _, _, .inr (.inr (.inl ⟨hA, fun h => (by cases h.1), .inl hl, rfl, rfl⟩)), rfl, h1, h2⟩
    | true =>
      by_cases hO : BadOrder ⟨st, L, true, ⟨ll, lo⟩⟩ lsn off
      · refine (idx_add_order xb st ll lo lsn off w (cell_of_row _ _ 0 _ _ _ H.out.row) (cell_of_row _ _ 2 _ _ _ H.out.row) (cell_of_row _ _ 3 _ _ _ H.out.row) (cell_of_row _ _ 4 _ _ _ H.out.row) ok.out.step.1 ok.out.lsn hA2.1 hA2.2.1 hA2.2.2 hO.2).mono ?_
        rintro e w' ⟨rfl, rfl⟩
        exact ⟨_, _, _, _, _, .inr (.inl ⟨hA, hO, rfl, rfl⟩), rfl, H.out, Turned.of_below _ _ (Below.refl _ _)⟩
      · have hO2 : ll ≠ 9223372036854775807 ∧ lsn = ll + 1 ∧ lo < off := by
          unfold BadOrder at hO
          simp only [true_and, not_or] at hO
          omega
        refine (idx_add_more base xb n ca st ll lo L ao lsn off w H ok HB hA2.1 hA2.2.1 hA2.2.2 hO2.1 hO2.2.1 hO2.2.2).mono ?_
        rintro e w' ⟨L', ao', n', ca', hL, rfl, h1, h2⟩
        have h0 : 1 ≤ L.length := ok.out.told.1 rfl
        rcases hL with ⟨h3, rfl⟩ | ⟨h3, rfl⟩
        · exact ⟨_, _, _, _, _, .inr (.inr (.inl ⟨hA, hO, .inr h3, rfl, rfl⟩)), rfl, h1, h2⟩
        · exact ⟨_, _, _, _, _, .inr (.inr (.inr ⟨hA, hO, (by unfold LaidE; dsimp only; omega), rfl, rfl⟩)), rfl, h1, h2⟩
end Go.Proofs.Ytmkljmljbbijeaa

/-! The walks of index.Find and Entries; the document's Find. -/
namespace Go.Proofs.Ytmkljmljbbijeaa
open Go.RowKit

/-- What Find answers. -/
def FindIs (L : List EntV) (lsn : Int) (e : EntV) (ok : Bool) : Prop :=
  (∃ i, i < L.length ∧ (nthE L i).lsn ≤ lsn ∧ (∀ j, i < j → j < L.length → lsn < (nthE L j).lsn) ∧ e = nthE L i ∧ ok = true) ∨ ((∀ j, j < L.length → lsn < (nthE L j).lsn) ∧ e = ⟨0, 0⟩ ∧ ok = false)
theorem FindIs.uniq {L : List EntV} {lsn : Int} {e f : EntV} {a b : Bool} (h : FindIs L lsn e a) (k : FindIs L lsn f b) : e = f ∧ a = b := by
  rcases h with ⟨i, h1, h2, h3, rfl, rfl⟩ | ⟨h1, rfl, rfl⟩ <;> rcases k with ⟨j, k1, k2, k3, rfl, rfl⟩ | ⟨k1, rfl, rfl⟩
  · rcases Nat.lt_trichotomy i j with e | e | e
    · have := h3 j e k1; omega
    · subst e; exact ⟨rfl, rfl⟩
    · have := k3 i e h1; omega
  · have := k1 i h1; omega
  · have := h1 j k1; omega
  · exact ⟨rfl, rfl⟩
theorem put2 {w : World} {b : Nat} {a c : Value} {t : TypeId} (h : w.heap[b]? = some (.cells #[a, c] t (0, 0))) (x y : Value) : ((w.setCell ⟨b, 0, none⟩ x).setCell ⟨b, 1, none⟩ y).heap[b]? = some (.cells #[x, y] t (0, 0)) := row_set (row_set h 0 x) 1 y
theorem put2_below {n b : Nat} {w W : World} (h : Below n w W) (hb : n ≤ b) (x y : Value) : Below n w ((W.setCell ⟨b, 0, none⟩ x).setCell ⟨b, 1, none⟩ y) := (h.setCell (p := ⟨b, 0, none⟩) hb _).setCell (p := ⟨b, 1, none⟩) hb _
theorem results_ent2 {fn : Func} {p u : Tmp} (h : fn.results = #[.cell p 64, .tmp u]) (tmps : Array Value) (w : World) (b : Nat) (x y : Value)
    (hp : tmps.getD p undef = .pointer (some ⟨b, 0, none⟩)) (c0 : w.cell? ⟨b, 0, none⟩ = some x) (c1 : w.cell? ⟨b, 1, none⟩ = some y) :
    (results fn tmps).run Try.prog w = .ok (.tuple #[.agg #[x, y], tmps.getD u undef]) w := by
  have hp' : tmps[p]?.getD undef = .pointer (some ⟨b, 0, none⟩) := by simpa using hp
  simp [results, h, hp', go_sem, c0, c1, asAddr, loadVar, Result.andThen, Sem.run_bind]
def FindB (w : World) (L : List EntV) (lsn : Int) (e : Ending) (w' : World) : Prop := ∃ en ok, FindIs L lsn en ok ∧ e = .returned (.tuple #[.agg #[.int .i64 en.lsn, .int .i64 en.off], .bool ok]) ∧ Below w.heap.size w w'

set_option maxRecDepth 100000 in
set_option maxHeartbeats 4000000 in
theorem idx_find (base xb n ca : Nat) (X : IdxV) (ao : Option Addr) (lsn : Int) (w : World) (H : Hid (IdxAt w base xb X ao n ca)) (ok : Hid (IdxOk X)) :
    Calls Try.prog 38 #[.pointer (some ⟨xb, 0, none⟩), .int .i64 lsn] w (FindB w X.l lsn) := by
  have b1 := below_alloc w (.cells #[.int .i64 0, .int .i64 0] 64)
  have n1 := heap_alloc_new w (.cells #[.int .i64 0, .int .i64 0] 64)
  obtain ⟨w1, hw1⟩ : ∃ w1, w.alloc (.cells #[.int .i64 0, .int .i64 0] 64) = w1 := ⟨_, rfl⟩
  rw [hw1] at b1 n1
  have B1 := Lib.hid b1
  have E1 := Lib.hid n1
  have H1 := Lib.hid (H.out.keep b1)
  have HN := Lib.hid H.out.held.len.1
  have x0 := cell_of_row _ _ 0 _ _ _ H1.out.row
  have st0 := ok.out.step.1
  have n64 : (n : Int) ≤ 2147483648 := by have := ok.out.len; have := HN.out; omega
  clear b1 n1
  go_enter Try.func38, Try.ntmps38
  go_wp2_with fail
  refine (idx_made xb X.step true w1 x0 (decide_eq_true (by omega))).mono ?_
  rintro e w' ⟨rfl, rfl⟩
  go_wp2_with fail
  refine (idx_from base xb n ca X ao lsn w1 H1 ok).mono ?_
  rintro e w2 ⟨k, rfl, hF, hb2⟩
  have F := Lib.hid hF
  have H2 := Lib.hid (H1.out.keep hb2)
  have E2 := Lib.hid ((hb2.block _ (heap_lt E1.out)).trans E1.out)
  have B2 := Lib.hid (below_trans B1.out hb2)
  have kn : k ≤ n := by have := hF.1; have := HN.out; omega
  have x1 := cell_of_row _ _ 1 _ _ _ H2.out.row
  have e0 := cell_of_row _ _ 0 _ _ _ E2.out
  have e1 := cell_of_row _ _ 1 _ _ _ E2.out
  have f0 := frozen_of_row _ _ 0 _ _ E2.out
  have f1 := frozen_of_row _ _ 1 _ _ E2.out
  clear hF hb2 x0
  have fin : ∀ (en : EntV) (t : Bool), FindIs X.l lsn en t → ∀ Wd, ((w2.setCell ⟨w.heap.size, 0, none⟩ (.int .i64 en.lsn)).setCell ⟨w.heap.size, 1, none⟩ (.int .i64 en.off)) = Wd → FindB w X.l lsn (.returned (.tuple #[.agg #[.int .i64 en.lsn, .int .i64 en.off], .bool t])) Wd := fun en t h Wd e => ⟨en, t, h, rfl, by rw [← e]; exact put2_below B2.out (Nat.le_refl _) _ _⟩
  have FIN := Lib.hid fin
  clear fin
  by_cases hk : k < n ∧ (nthE X.l k).lsn = lsn
  · obtain ⟨hk1, hk2⟩ := hk
    obtain ⟨g, rfl, -, hc, -⟩ := H2.out.held.get (i := k) (by have := HN.out; omega)
    obtain ⟨d0, d1⟩ := hc
    have kz : (k : Int) < (n : Int) := by omega
    rw [hk2] at d0
    have K2 := Lib.hid hk2
    have FF := Lib.hid (show FindIs X.l lsn (nthE X.l k) true from .inl ⟨k, by have := HN.out; omega, by omega, fun j h1 h2 => by have := F.out.2.2 j (by omega) h2; have := ok.out.lt (j - k - 1) k (by omega); rw [show k + (j - k - 1) + 1 = j by omega] at this; omega, rfl, rfl⟩)
    clear hk1 hk2 kn
    go_wp2_with fail
    refine bodyPost_ret (results_ent2 rfl _ _ w.heap.size _ _ rfl (cell_of_row _ _ 0 _ _ _ (put2 E2.out _ _)) (cell_of_row _ _ 1 _ _ _ (put2 E2.out _ _))) rfl ?_
    have := FIN.out _ _ FF.out _ rfl
    rw [K2.out] at this
    exact this
  · have HK := Lib.hid hk
    clear hk
    rcases Nat.eq_zero_or_pos k with h0 | h0
    · subst h0
      have FF := Lib.hid (show FindIs X.l lsn ⟨0, 0⟩ false from .inr ⟨fun j hj => by
        have h1 := F.out.2.2 j (Nat.zero_le _) hj
        rcases Nat.eq_zero_or_pos j with h2 | h2
        · subst h2
          have := HK.out
          have := HN.out
          omega
        · have h3 := F.out.2.2 0 (Nat.zero_le _) (by omega)
          have h4 := ok.out.lt (j - 1) 0 (by omega)
          rw [show 0 + (j - 1) + 1 = j by omega] at h4
          omega, rfl, rfl⟩)
      by_cases hn0 : 0 < n
      · obtain ⟨g, rfl, -, hc, -⟩ := H2.out.held.get (i := 0) (by have := HN.out; omega)
        obtain ⟨d0, -⟩ := hc
        have kz : (0 : Int) < (n : Int) := by omega
        have ne : ((nthE X.l 0).lsn == lsn) = false := by have := HK.out; simp; omega
        rw [Nat.zero_mul] at d0
        clear hn0
        go_wp2_with fail
        refine bodyPost_ret (results_ent2 rfl _ _ w.heap.size _ _ rfl (cell_of_row _ _ 0 _ _ _ (put2 E2.out _ _)) (cell_of_row _ _ 1 _ _ _ (put2 E2.out _ _))) rfl ?_
        exact FIN.out ⟨0, 0⟩ _ FF.out _ rfl
      · obtain rfl : n = 0 := by omega
        go_wp2_with fail
        refine bodyPost_ret (results_ent2 rfl _ _ w.heap.size _ _ rfl (cell_of_row _ _ 0 _ _ _ (put2 E2.out _ _)) (cell_of_row _ _ 1 _ _ _ (put2 E2.out _ _))) rfl ?_
        exact FIN.out ⟨0, 0⟩ _ FF.out _ rfl
    · obtain ⟨m, rfl⟩ : ∃ m, k = m + 1 := ⟨k - 1, by omega⟩
      obtain ⟨g, rfl, -, hc, -⟩ := H2.out.held.get (i := m) (by have := HN.out; omega)
      obtain ⟨c0, c1⟩ := hc
      have k1 : (m : Int) < (n : Int) := by omega
      have k2 : (m : Int) + 1 ≤ 2147483648 := by omega
      have k3 : ((m : Int) + 1 == 0) = false := by simp; omega
      have FF := Lib.hid (show FindIs X.l lsn (nthE X.l m) true from .inl ⟨m, by have := HN.out; omega, by have := F.out.2.1 m (by omega); omega, fun j h1 h2 => by
        have h3 := F.out.2.2 j (by omega) h2
        rcases Nat.eq_or_lt_of_le (show m + 1 ≤ j from h1) with e | e
        · subst e
          have := HK.out
          have := HN.out
          omega
        · have h4 := F.out.2.2 (m + 1) (Nat.le_refl _) (by omega)
          have h5 := ok.out.lt (j - (m + 1) - 1) (m + 1) (by omega)
          rw [show m + 1 + (j - (m + 1) - 1) + 1 = j by omega] at h5
          omega, rfl, rfl⟩)
      by_cases hn0 : m + 1 < n
      · obtain ⟨g', e', -, hc, -⟩ := H2.out.held.get (i := m + 1) (by have := HN.out; omega)
        injection e' with e'
        injection e' with e'
        subst e'
        obtain ⟨d0, -⟩ := hc
        have kz : (m : Int) + 1 < (n : Int) := by omega
        have ne : ((nthE X.l (m + 1)).lsn == lsn) = false := by have := HK.out; simp; omega
        clear hn0 h0 kn
        go_wp2_with fail
        refine bodyPost_ret (results_ent2 rfl _ _ w.heap.size _ _ rfl (cell_of_row _ _ 0 _ _ _ (put2 E2.out _ _)) (cell_of_row _ _ 1 _ _ _ (put2 E2.out _ _))) rfl ?_
        exact FIN.out _ _ FF.out _ rfl
      · obtain rfl : n = m + 1 := by omega
        clear hn0 h0 kn k1
        go_wp2_with fail
        refine bodyPost_ret (results_ent2 rfl _ _ w.heap.size _ _ rfl (cell_of_row _ _ 0 _ _ _ (put2 E2.out _ _)) (cell_of_row _ _ 1 _ _ _ (put2 E2.out _ _))) rfl ?_
        exact FIN.out _ _ FF.out _ rfl
set_option maxRecDepth 100000 in
theorem idx_entries (base xb n ca : Nat) (X : IdxV) (ao : Option Addr) (w : World) (H : Hid (IdxAt w base xb X ao n ca)) (ok : Hid (IdxOk X)) :
    Calls Try.prog 39 #[.pointer (some ⟨xb, 0, none⟩)] w fun e w' => ∃ v, e = .returned v ∧ OwnE w' w.heap.size v X.l ∧ Below w.heap.size w w' := by
  have x0 := cell_of_row _ _ 0 _ _ _ H.out.row
  have x1 := cell_of_row _ _ 1 _ _ _ H.out.row
  have st0 := ok.out.step.1
  have HL := Lib.hid H.out.held.len
  have HLL := Lib.hid ok.out.len
  go_enter Try.func39, Try.ntmps39
  go_wp2_with fail
  refine (idx_made xb X.step true w x0 (decide_eq_true (by omega))).mono ?_
  rintro e w' ⟨rfl, rfl⟩
  go_wp2_with (refine wpList_append_ents (o := ⟨some 10, _, _, _, _, _⟩) rfl _ _ rfl rfl ao n ca X.l rfl HL.out.1 HL.out.2.2.2.1 HL.out.2.2.2.2 (by have := HLL.out; omega) ?_)
  intro v w2 hv hb
  have V := Lib.hid hv
  have B := Lib.hid hb
  clear hv hb
  go_wp2_with fail
  go_ret
  exact ⟨_, rfl, V.out, B.out⟩
end Go.Proofs.Ytmkljmljbbijeaa

/-! The walk of index.Cut. -/
namespace Go.Proofs.Ytmkljmljbbijeaa
open Go.RowKit

def cutV (X : IdxV) (k : Nat) : IdxV := ⟨X.step, X.l.take k, decide (0 < k), lastE (X.l.take k)⟩
/-- What Cut answers, and leaves. -/
def CutE (X : IdxV) (lsn : Int) (Y : IdxV) (gone : Int) : Prop :=
  ((X.told = false ∨ X.last.lsn < lsn) ∧ Y = X ∧ gone = 0) ∨ (X.told = true ∧ lsn ≤ X.last.lsn ∧ ∃ k, FromIs X.l lsn k ∧ gone = (X.l.length : Int) - k ∧ Y = cutV X k)
theorem CutE.uniq {X : IdxV} {lsn : Int} {Y Z : IdxV} {a b : Int} (h : CutE X lsn Y a) (k : CutE X lsn Z b) : Y = Z ∧ a = b := by
  rcases h with ⟨h1, rfl, rfl⟩ | ⟨h1, h2, i, h3, rfl, rfl⟩ <;> rcases k with ⟨k1, rfl, rfl⟩ | ⟨k1, k2, j, k3, rfl, rfl⟩
  · exact ⟨rfl, rfl⟩
  · rcases h1 with h | h
    · rw [h] at k1; cases k1
    · omega
  · rcases k1 with h | h
    · rw [h] at h1; cases h1
    · omega
  · obtain rfl := h3.uniq k3; exact ⟨rfl, rfl⟩
theorem nthE_take {L : List EntV} {k i : Nat} (h : i < k) : nthE (L.take k) i = nthE L i := by
  simp [nthE, List.getD_eq_getElem?_getD, h]
theorem cutV_ok {X : IdxV} (h : IdxOk X) {k : Nat} (hk : k ≤ X.l.length) : IdxOk (cutV X k) := by
  have hl : (X.l.take k).length = k := by rw [List.length_take]; omega
  have hlast : ∀ m, k = m + 1 → lastE (X.l.take k) = nthE X.l m := fun m e => by
    unfold lastE
    rw [hl, e, Nat.add_sub_cancel, nthE_take (by omega)]
  have h0 : k = 0 → lastE (X.l.take k) = ⟨0, 0⟩ := fun e => by subst e; simp [lastE, nthE]
  refine ⟨h.step, ?_, fun e => ?_, fun e => ?_, ?_, ?_, fun i hi => ?_, fun i hi => ?_⟩
  · show decide (0 < k) = true ↔ 1 ≤ (X.l.take k).length
    rw [hl, decide_eq_true_eq]
    exact Iff.rfl
  · have e' : ¬ 0 < k := of_decide_eq_false e
    exact h0 (by omega)
  · have e' : 0 < k := of_decide_eq_true e
    show 1 ≤ (lastE (X.l.take k)).lsn
    rw [hlast (k - 1) (by omega)]
    exact (h.ent (k - 1) (by omega)).1
  · show 0 ≤ (lastE (X.l.take k)).lsn ∧ (lastE (X.l.take k)).lsn ≤ 9223372036854775807
    rcases Nat.eq_zero_or_pos k with e | e
    · rw [h0 e]; exact ⟨by decide, by decide⟩
    · rw [hlast (k - 1) (by omega)]
      have := h.ent (k - 1) (by omega)
      have := h.lsn
      omega
  · show 0 ≤ (lastE (X.l.take k)).off ∧ (lastE (X.l.take k)).off ≤ 2147483647
    rcases Nat.eq_zero_or_pos k with e | e
    · rw [h0 e]; exact ⟨by decide, by decide⟩
    · rw [hlast (k - 1) (by omega)]
      have := h.ent (k - 1) (by omega)
      have := h.off
      omega
  · have hi' : i < k := by have : i < (X.l.take k).length := hi; omega
    show 1 ≤ (nthE (X.l.take k) i).lsn ∧ (nthE (X.l.take k) i).lsn ≤ (lastE (X.l.take k)).lsn ∧ 0 ≤ (nthE (X.l.take k) i).off ∧ (nthE (X.l.take k) i).off ≤ (lastE (X.l.take k)).off
    rw [nthE_take hi', hlast (k - 1) (by omega)]
    have h1 := h.ent i (by omega)
    have h2 := h.le (i := i) (j := k - 1) (by omega) (by omega)
    have h3 := h.ole (k - 1 - i) i (by omega)
    rw [show i + (k - 1 - i) = k - 1 by omega] at h3
    omega
  · have hi' : i + 1 < k := by have : i + 1 < (X.l.take k).length := hi; omega
    show (nthE (X.l.take k) i).lsn < (nthE (X.l.take k) (i + 1)).lsn ∧ (nthE (X.l.take k) i).off + X.step ≤ (nthE (X.l.take k) (i + 1)).off
    rw [nthE_take (by omega), nthE_take hi']
    exact h.rise i (by omega)
theorem CutE.ok {X : IdxV} {lsn : Int} {Y : IdxV} {a : Int} (h : CutE X lsn Y a) (hx : IdxOk X) : IdxOk Y := by
  rcases h with ⟨-, rfl, -⟩ | ⟨-, -, k, hk, -, rfl⟩
  · exact hx
  · exact cutV_ok hx hk.1
/-- The stores of a cut. -/
theorem cut_put {w : World} {base xb : Nat} {X : IdxV} {ao : Option Addr} {n ca k : Nat} (h : IdxAt w base xb X ao n ca) (hk : k ≤ n) (t : Bool) (ll lo : Int) :
    IdxAt ((((w.setCell ⟨xb, 1, none⟩ (.slice ao k k)).setCell ⟨xb, 2, none⟩ (.bool t)).setCell ⟨xb, 3, none⟩ (.int .i64 ll)).setCell ⟨xb, 4, none⟩ (.int .i64 lo)) base xb ⟨X.step, X.l.take k, t, ⟨ll, lo⟩⟩ ao k k ∧
    Turned w ((((w.setCell ⟨xb, 1, none⟩ (.slice ao k k)).setCell ⟨xb, 2, none⟩ (.bool t)).setCell ⟨xb, 3, none⟩ (.int .i64 ll)).setCell ⟨xb, 4, none⟩ (.int .i64 lo)) xb (.slice ao n ca) (.slice ao k k) := by
  have off : ∀ q, q ≠ xb → ((((w.setCell ⟨xb, 1, none⟩ (.slice ao k k)).setCell ⟨xb, 2, none⟩ (.bool t)).setCell ⟨xb, 3, none⟩ (.int .i64 ll)).setCell ⟨xb, 4, none⟩ (.int .i64 lo)).heap[q]? = w.heap[q]? := fun q hq => (far_set hq).trans ((far_set hq).trans ((far_set hq).trans (far_set hq)))
  have hc := h.held.cut hk
  have ob : (Value.slice ao k k).ownBlock = (Value.slice ao n ca).ownBlock := by cases ao <;> rfl
  refine ⟨⟨row_set (row_set (row_set (row_set h.row 1 _) 2 _) 3 _) 4 _, held_congr hc fun q hq => off q (fun e => held_ne hc h.row (e ▸ hq)), h.low⟩, ⟨rfl, rfl, rfl, ?_, fun q _ h1 _ => off q h1, fun j hj => .inl (ob ▸ hj)⟩⟩
  have sz : ∀ (W : World) (a : Addr) (u : Value), (W.setCell a u).heap.size = W.heap.size := fun W a u => by simp [World.setCell]
  rw [sz, sz, sz, sz]
  exact Nat.le_refl _
/-- The last frame, set once more. -/
theorem last_put {w : World} {base xb : Nat} {X : IdxV} {ao : Option Addr} {n ca : Nat} (h : IdxAt w base xb X ao n ca) (e : EntV) :
    IdxAt ((w.setCell ⟨xb, 3, none⟩ (.int .i64 e.lsn)).setCell ⟨xb, 4, none⟩ (.int .i64 e.off)) base xb ⟨X.step, X.l, X.told, e⟩ ao n ca ∧
    Turned w ((w.setCell ⟨xb, 3, none⟩ (.int .i64 e.lsn)).setCell ⟨xb, 4, none⟩ (.int .i64 e.off)) xb (.slice ao n ca) (.slice ao n ca) := by
  have off : ∀ q, q ≠ xb → ((w.setCell ⟨xb, 3, none⟩ (.int .i64 e.lsn)).setCell ⟨xb, 4, none⟩ (.int .i64 e.off)).heap[q]? = w.heap[q]? := fun q hq => (far_set hq).trans (far_set hq)
  refine ⟨⟨row_set (row_set h.row 3 _) 4 _, held_congr h.held fun q hq => off q (fun e => held_ne h.held h.row (e ▸ hq)), h.low⟩, ⟨rfl, rfl, rfl, ?_, fun q _ h1 _ => off q h1, fun j hj => .inl hj⟩⟩
  have sz : ∀ (W : World) (a : Addr) (u : Value), (W.setCell a u).heap.size = W.heap.size := fun W a u => by simp [World.setCell]
  rw [sz, sz]
  exact Nat.le_refl _
def CutQ (w : World) (base xb : Nat) (X : IdxV) (lsn : Int) (v : Value) (e : Ending) (w' : World) : Prop := ∃ Y gone ao' n' ca', CutE X lsn Y gone ∧ e = .returned (.int .i64 gone) ∧ IdxAt w' base xb Y ao' n' ca' ∧ Turned w w' xb v (.slice ao' n' ca')

set_option maxRecDepth 100000 in
set_option maxHeartbeats 4000000 in
theorem idx_cut (base xb n ca : Nat) (X : IdxV) (ao : Option Addr) (lsn : Int) (w : World) (H : Hid (IdxAt w base xb X ao n ca)) (ok : Hid (IdxOk X)) :
    Calls Try.prog 47 #[.pointer (some ⟨xb, 0, none⟩), .int .i64 lsn] w (CutQ w base xb X lsn (.slice ao n ca)) := by
  have x0 := cell_of_row _ _ 0 _ _ _ H.out.row
  have x2 := cell_of_row _ _ 2 _ _ _ H.out.row
  have x3 := cell_of_row _ _ 3 _ _ _ H.out.row
  have st0 := ok.out.step.1
  have HN := Lib.hid H.out.held.len.1
  have n64 : (n : Int) ≤ 2147483648 := by have := ok.out.len; have := HN.out; omega
  go_enter Try.func47, Try.ntmps47
  go_wp2_with fail
  refine (idx_made xb X.step true w x0 (decide_eq_true (by omega))).mono ?_
  rintro e w' ⟨rfl, rfl⟩
  obtain ⟨t, ht⟩ : ∃ t, X.told = t := ⟨_, rfl⟩
  have HT := Lib.hid ht
  rw [ht] at x2
  clear ht
  cases t with
  | false =>
    go_wp2_with fail
    go_ret
    exact ⟨_, _, _, _, _, .inl ⟨.inl HT.out, rfl, rfl⟩, rfl, H.out, Turned.of_below _ _ (Below.refl _ _)⟩
  | true =>
    by_cases hl : X.last.lsn < lsn
    · have HL := Lib.hid hl
      go_wp2_with fail
      go_ret
      exact ⟨_, _, _, _, _, .inl ⟨.inr HL.out, rfl, rfl⟩, rfl, H.out, Turned.of_below _ _ (Below.refl _ _)⟩
    · have HL := Lib.hid (show lsn ≤ X.last.lsn by omega)
      have hl2 : decide (X.last.lsn < lsn) = false := decide_eq_false hl
      clear hl
      go_wp2_with fail
      refine (idx_from base xb n ca X ao lsn w H ok).mono ?_
      rintro e w2 ⟨k, rfl, hF, hb2⟩
      have F := Lib.hid hF
      have H2 := Lib.hid (H.out.keep hb2)
      have B2 := Lib.hid hb2
      have kn : k ≤ n := by have := hF.1; have := HN.out; omega
      have kz : (k : Int) ≤ (n : Int) := by omega
      have kc : k ≤ ca := by have := H.out.held.len.2.1; omega
      have kcz : (k : Int) ≤ (ca : Int) := by omega
      have z1 : IntKind.i64.wrap ((n : Int) - (k : Int)) = (n : Int) - (k : Int) := IntWalk.i64_in _ (by omega)
      have T2 := Lib.hid (Turned.of_below xb (.slice ao n ca) hb2)
      obtain ⟨g, rfl⟩ : ∃ g, ao = some ⟨g, 0, none⟩ := by
        obtain ⟨g, e, -⟩ := H2.out.held.get (i := 0) (by have := ok.out.told.1 HT.out; omega)
        exact ⟨g, e⟩
      have y1 := cell_of_row _ _ 1 _ _ _ H2.out.row
      have y2 := cell_of_row _ _ 2 _ _ _ H2.out.row
      have y3 := cell_of_row _ _ 3 _ _ _ H2.out.row
      have y4 := cell_of_row _ _ 4 _ _ _ H2.out.row
      have f1 := frozen_of_row _ _ 1 _ _ H2.out.row
      have f2 := frozen_of_row _ _ 2 _ _ H2.out.row
      have f3 := frozen_of_row _ _ 3 _ _ H2.out.row
      have f4 := frozen_of_row _ _ 4 _ _ H2.out.row
      clear hF hb2 x0 x2 x3 hl2
      rcases Nat.eq_zero_or_pos k with h0 | h0
      · subst h0
        have P := Lib.hid (cut_put H2.out kn false 0 0)
        go_wp2_with fail
        go_ret
        refine ⟨cutV X 0, _, _, _, _, .inr ⟨HT.out, HL.out, 0, F.out, rfl, rfl⟩, ?_, P.out.1, T2.out.trans P.out.2⟩
        have := HN.out
        simp [this]
      · obtain ⟨m, rfl⟩ : ∃ m, k = m + 1 := ⟨k - 1, by omega⟩
        have P := Lib.hid (cut_put H2.out kn true 0 0)
        have P2 := Lib.hid (last_put P.out.1 (nthE X.l m))
        obtain ⟨g', e', -, hc, -⟩ := H2.out.held.get (i := m) (by have := HN.out; omega)
        injection e' with e'
        injection e' with e'
        subst e'
        obtain ⟨d0, d1⟩ := hc
        have gx : g ≠ xb := fun e => held_ne H2.out.held H2.out.row (by rw [e]; rfl)
        have gx2 : xb ≠ g := fun e => gx e.symm
        have mz : (m : Int) < (m : Int) + 1 := by omega
        have mz2 : (m : Int) + 1 ≤ 2147483648 := by omega
        have mz3 : 0 < (m : Int) + 1 := by omega
        clear h0
        go_wp2_with fail
        go_ret
        refine ⟨cutV X (m + 1), _, _, _, _, .inr ⟨HT.out, HL.out, m + 1, F.out, rfl, rfl⟩, ?_, ?_, T2.out.trans (P.out.2.trans P2.out.2)⟩
        · have := HN.out
          simp [this]
        · have e : lastE (X.l.take (m + 1)) = nthE X.l m := by
            unfold lastE
            rw [List.length_take, Nat.min_eq_left (by have := HN.out; omega), Nat.add_sub_cancel, nthE_take (by omega)]
          have := P2.out.1
          unfold cutV
          rw [e]
          exact this
end Go.Proofs.Ytmkljmljbbijeaa

/-! The document's index: New, Add, Find, Cut walked. -/
namespace Go.Proofs.Ytmkljmljbbijeaa
open Go.RowKit

/-- The document's index in memory. -/
structure RefAt (w : World) (base yb : Nat) (X : IdxV) (ao : Option Addr) (n cap : Nat) : Prop where
  row : w.heap[yb]? = some (.cells #[.int .i64 X.step, .slice ao n cap, .int .i64 X.last.lsn, .int .i64 X.last.off] 81 (0, 0))
  own : OwnE w base (.slice ao n cap) X.l
  low : base ≤ yb
theorem RefAt.keep {w w' : World} {base yb : Nat} {X : IdxV} {ao : Option Addr} {n cap : Nat} (h : RefAt w base yb X ao n cap) (hb : Below w.heap.size w w') : RefAt w' base yb X ao n cap :=
  ⟨(hb.block _ (heap_lt h.row)).trans h.row, h.own.keep hb, h.low⟩
theorem RefAt.move {w w' : World} {base yb : Nat} {X : IdxV} {ao : Option Addr} {n cap : Nat} (h : RefAt w base yb X ao n cap) (hm : ∀ q, q = yb ∨ (Value.slice ao n cap).ownBlock = some q → w'.heap[q]? = w.heap[q]?) : RefAt w' base yb X ao n cap :=
  ⟨(hm yb (.inl rfl)).trans h.row, rows_congr h.own fun q hq => hm q (.inr hq), h.low⟩
theorem RefAt.len {w : World} {base yb : Nat} {X : IdxV} {ao : Option Addr} {n cap : Nat} (h : RefAt w base yb X ao n cap) : X.l.length = n ∧ n ≤ cap ∧ cap ≤ maxLen ∧ EntsAt w ao X.l ∧ (ao = none → cap = 0) := (HeldE.of_own h.own).len
theorem own_row_ne {w : World} {base yb : Nat} {v : Value} {L : List EntV} {cs : Array Value} {f : Nat × Nat} (h : OwnE w base v L) (hr : w.heap[yb]? = some (.cells cs 81 f)) : v.ownBlock ≠ some yb := fun e => by
  obtain ⟨-, c, hc⟩ := rows_blk h e
  rw [hr] at hc
  simp at hc
structure RefR (yb : Nat) (lsn off : Int) (v : Value) (w : World) : Prop where
  x1 : w.cell? ⟨yb, 1, none⟩ = some v
  x2 : w.cell? ⟨yb, 2, none⟩ = some (.int .i64 lsn)
  x3 : w.cell? ⟨yb, 3, none⟩ = some (.int .i64 off)
theorem RefR.below {yb : Nat} {lsn off : Int} {v : Value} {w w' : World} (h : RefR yb lsn off v w) (hb : Below w.heap.size w w') : RefR yb lsn off v w' := ⟨cell_keep hb h.x1, cell_keep hb h.x2, cell_keep hb h.x3⟩
theorem refR_row {w : World} {yb : Nat} {st lsn off : Int} {v : Value} (h : w.heap[yb]? = some (.cells #[.int .i64 st, v, .int .i64 lsn, .int .i64 off] 81 (0, 0))) : RefR yb lsn off v w := ⟨cell_of_row _ _ 1 _ _ _ h, cell_of_row _ _ 2 _ _ _ h, cell_of_row _ _ 3 _ _ _ h⟩
theorem set_sz (W : World) (a : Addr) (u : Value) : (W.setCell a u).heap.size = W.heap.size := by simp [World.setCell]
structure RPushed (w0 w3 : World) (base yb : Nat) (X : IdxV) (ao : Option Addr) (n ca : Nat) (e : EntV) (a3 : Option Addr) (n3 c3 : Nat) : Prop where
  row : w3.heap[yb]? = some (.cells #[.int .i64 X.step, .slice ao n ca, .int .i64 X.last.lsn, .int .i64 X.last.off] 81 (0, 0))
  at' : RefAt (w3.setCell ⟨yb, 1, none⟩ (.slice a3 n3 c3)) base yb ⟨X.step, X.l ++ [e], X.told, X.last⟩ a3 n3 c3
  turned : Turned w0 (w3.setCell ⟨yb, 1, none⟩ (.slice a3 n3 c3)) yb (.slice ao n ca) (.slice a3 n3 c3)
theorem ref_push {w0 w w3 : World} {base yb : Nat} {X : IdxV} {ao : Option Addr} {n ca : Nat} {e : EntV} {a3 : Option Addr} {n3 c3 : Nat} (hb : Below w0.heap.size w0 w) (H : RefAt w base yb X ao n ca)
    (ho : OwnE w3 base (.slice a3 n3 c3) (X.l ++ [e])) (hg : w.grownBy w3 (Value.slice ao n ca).ownBlock) (hw : ∀ j, (Value.slice a3 n3 c3).ownBlock = some j → (Value.slice ao n ca).ownBlock = some j ∨ w0.heap.size ≤ j) : RPushed w0 w3 base yb X ao n ca e a3 n3 c3 := by
  have hr : w3.heap[yb]? = some (.cells #[.int .i64 X.step, .slice ao n ca, .int .i64 X.last.lsn, .int .i64 X.last.off] 81 (0, 0)) := (hg.block yb (heap_lt H.row) (fun e => own_row_ne H.own H.row e.symm)).trans H.row
  refine ⟨hr, ⟨row_set hr 1 _, rows_congr ho fun q hq => far_set (fun h => own_row_ne ho hr (h ▸ hq)), H.low⟩, ⟨?_, ?_, ?_, ?_, fun q hq h1 h2 => ?_, fun j hj => hw j hj⟩⟩
  · exact (show (w3.setCell ⟨yb, 1, none⟩ (.slice a3 n3 c3)).os = w3.os from rfl).trans (hg.os.trans hb.os)
  · exact (show (w3.setCell ⟨yb, 1, none⟩ (.slice a3 n3 c3)).tape = w3.tape from rfl).trans (hg.tape.trans hb.tape)
  · exact (show (w3.setCell ⟨yb, 1, none⟩ (.slice a3 n3 c3)).output = w3.output from rfl).trans (hg.output.trans hb.output)
  · rw [set_sz]
    exact Nat.le_trans hb.size hg.size
  · exact (far_set h1).trans ((hg.block q (Nat.lt_of_lt_of_le hq hb.size) (fun e => h2 e.symm)).trans (hb.block q hq))
/-- The last frame, set. -/
theorem ref_last {w : World} {base yb : Nat} {X : IdxV} {ao : Option Addr} {n ca : Nat} (h : RefAt w base yb X ao n ca) (t : Bool) (e : EntV) :
    RefAt ((w.setCell ⟨yb, 2, none⟩ (.int .i64 e.lsn)).setCell ⟨yb, 3, none⟩ (.int .i64 e.off)) base yb ⟨X.step, X.l, t, e⟩ ao n ca ∧
    Turned w ((w.setCell ⟨yb, 2, none⟩ (.int .i64 e.lsn)).setCell ⟨yb, 3, none⟩ (.int .i64 e.off)) yb (.slice ao n ca) (.slice ao n ca) := by
  have off : ∀ q, q ≠ yb → ((w.setCell ⟨yb, 2, none⟩ (.int .i64 e.lsn)).setCell ⟨yb, 3, none⟩ (.int .i64 e.off)).heap[q]? = w.heap[q]? := fun q hq => (far_set hq).trans (far_set hq)
  refine ⟨⟨row_set (row_set h.row 2 _) 3 _, rows_congr h.own fun q hq => off q (fun e => own_row_ne h.own h.row (e ▸ hq)), h.low⟩, ⟨rfl, rfl, rfl, ?_, fun q _ h1 _ => off q h1, fun j hj => .inl hj⟩⟩
  rw [set_sz, set_sz]
  exact Nat.le_refl _

set_option maxRecDepth 100000 in
theorem ref_new_ok (s : Int) (w : World) (h1 : 1 ≤ s) (h2 : s ≤ 1048576) :
    Calls Try.prog 44 #[.int .i64 s] w fun e w' => e = .returned (.tuple #[.pointer (some ⟨w.heap.size, 0, none⟩), .int .i64 0]) ∧ RefAt w' w.heap.size w.heap.size (idx0 s) none 0 0 ∧ Below w.heap.size w w' := by
  go_enter Try.func44, Try.ntmps44
  go_wp2_with fail
  go_ret2
  exact ⟨rfl, ⟨heap_alloc_new w _, OwnE.nil _ _, Nat.le_refl _⟩, below_alloc _ _⟩
set_option maxRecDepth 100000 in
theorem ref_new_no (s : Int) (w : World) (h : ¬ (1 ≤ s ∧ s ≤ 1048576)) :
    Calls Try.prog 44 #[.int .i64 s] w fun e w' => e = .returned (.tuple #[.pointer none, .int .i64 1]) ∧ w' = w := by
  go_enter Try.func44, Try.ntmps44
  by_cases h1 : 1 ≤ s
  · have h2 : 1048576 < s := by omega
    go_wp2_with fail
    go_ret2
    exact ⟨rfl, rfl⟩
  · go_wp2_with fail
    go_ret2
    exact ⟨rfl, rfl⟩

set_option maxRecDepth 100000 in
set_option maxHeartbeats 4000000 in
theorem ref_find (base yb n ca : Nat) (X : IdxV) (ao : Option Addr) (lsn : Int) (w : World) (H : Hid (RefAt w base yb X ao n ca)) (ok : Hid (IdxOk X)) :
    Calls Try.prog 46 #[.pointer (some ⟨yb, 0, none⟩), .int .i64 lsn] w (FindB w X.l lsn) := by
  have b1 := below_alloc w (.cells #[.int .i64 0, .int .i64 0] 64)
  have n1 := heap_alloc_new w (.cells #[.int .i64 0, .int .i64 0] 64)
  obtain ⟨w1, hw1⟩ : ∃ w1, w.alloc (.cells #[.int .i64 0, .int .i64 0] 64) = w1 := ⟨_, rfl⟩
  rw [hw1] at b1 n1
  have B1 := Lib.hid b1
  have E1 := Lib.hid n1
  have H1 := Lib.hid (H.out.keep b1)
  have HN := Lib.hid H.out.len.1
  have x1 := cell_of_row _ _ 1 _ _ _ H1.out.row
  have e0 := cell_of_row _ _ 0 _ _ _ E1.out
  have e1 := cell_of_row _ _ 1 _ _ _ E1.out
  have f0 := frozen_of_row _ _ 0 _ _ E1.out
  have f1 := frozen_of_row _ _ 1 _ _ E1.out
  have n64 : (n : Int) ≤ 2147483648 := by have := ok.out.len; have := HN.out; omega
  have FIN := Lib.hid (show ∀ (en : EntV) (t : Bool), FindIs X.l lsn en t → ∀ Wd, ((w1.setCell ⟨w.heap.size, 0, none⟩ (.int .i64 en.lsn)).setCell ⟨w.heap.size, 1, none⟩ (.int .i64 en.off)) = Wd → FindB w X.l lsn (.returned (.tuple #[.agg #[.int .i64 en.lsn, .int .i64 en.off], .bool t])) Wd from fun en t h Wd e => ⟨en, t, h, rfl, by rw [← e]; exact put2_below B1.out (Nat.le_refl _) _ _⟩)
  have z1 : IntKind.i64.wrap ((n : Int) - 1) = (n : Int) - 1 := IntWalk.i64_in _ (by omega)
  clear b1 n1
  go_enter Try.func46, Try.ntmps46
  go_wp2_with fail
  go_loopw [6] (fun i wr => ∃ q : Int, -1 ≤ q ∧ q < n ∧ i = .int .i64 q ∧ Hid (w1 = wr) ∧ Hid (∀ j : Nat, q < (j : Int) → j < X.l.length → lsn < (nthE X.l j).lsn)) (fun i _ => (intOf i + 1).toNat)
  case atStart => exact ⟨(n : Int) - 1, by omega, by omega, rfl, Lib.hid rfl, Lib.hid fun j h1 h2 => by have := HN.out; omega⟩
  case round =>
    clear z1
    obtain ⟨q, hq1, hq2, rfl, hw, HQ⟩ := hrel
    have hw' := hw.out
    subst hw'
    by_cases h0 : 0 ≤ q
    · obtain ⟨m, rfl⟩ : ∃ m : Nat, q = m := ⟨q.toNat, by omega⟩
      obtain ⟨g, rfl, -, hc, -⟩ := (HeldE.of_own H1.out.own).get (i := m) (by have := HN.out; omega)
      obtain ⟨d0, d1⟩ := hc
      by_cases hl : (nthE X.l m).lsn ≤ lsn
      · have FF := Lib.hid (show FindIs X.l lsn (nthE X.l m) true from .inl ⟨m, by have := HN.out; omega, hl, fun j h1 h2 => HQ.out j (by omega) h2, rfl, rfl⟩)
        go_wp2_with fail
        refine bodyPost_ret (results_ent2 rfl _ _ w.heap.size _ _ rfl (cell_of_row _ _ 0 _ _ _ (put2 E1.out _ _)) (cell_of_row _ _ 1 _ _ _ (put2 E1.out _ _))) rfl ?_
        exact FIN.out _ _ FF.out _ rfl
      · have hl2 : decide ((nthE X.l m).lsn ≤ lsn) = false := decide_eq_false hl
        have HL := Lib.hid (show lsn < (nthE X.l m).lsn by omega)
        have z2 : IntKind.i64.wrap ((m : Int) - 1) = (m : Int) - 1 := IntWalk.i64_in _ (by omega)
        clear hl
        go_wp2_with fail
        go_roundw
        case rel => exact ⟨(m : Int) - 1, by omega, by omega, rfl, Lib.hid trivial, Lib.hid fun j h1 h2 => by
          rcases Nat.eq_or_lt_of_le (show m ≤ j by omega) with e | e
          · subst e; exact HL.out
          · exact HQ.out j (by omega) h2⟩
        case measure => simp [intOf]
    · have hq : q = -1 := by omega
      subst hq
      have FF := Lib.hid (show FindIs X.l lsn ⟨0, 0⟩ false from .inr ⟨fun j hj => HQ.out j (by omega) hj, rfl, rfl⟩)
      go_wp2_with fail
      refine bodyPost_ret (results_ent2 rfl _ _ w.heap.size _ _ rfl (cell_of_row _ _ 0 _ _ _ (put2 E1.out _ _)) (cell_of_row _ _ 1 _ _ _ (put2 E1.out _ _))) rfl ?_
      exact FIN.out ⟨0, 0⟩ _ FF.out _ rfl

set_option maxRecDepth 100000 in
set_option maxHeartbeats 4000000 in
theorem ref_add_arg (yb : Nat) (lsn off : Int) (w : World) (h : BadArg lsn off) :
    Calls Try.prog 45 #[.pointer (some ⟨yb, 0, none⟩), .int .i64 lsn, .int .i64 off] w fun e w' => e = .returned (.int .i64 1) ∧ w = w' := by
  have HH := Lib.hid h
  clear h
  go_enter Try.func45, Try.ntmps45
  rcases HH.out with h | h | h
  · go_wp2_with fail
    go_ret
    exact ⟨rfl, rfl⟩
  · by_cases h1 : lsn < 1
    · go_wp2_with fail
      go_ret
      exact ⟨rfl, rfl⟩
    · have t1 : decide (lsn < 1) = false := decide_eq_false h1
      clear h1
      go_wp2_with fail
      go_ret
      exact ⟨rfl, rfl⟩
  · have h2 : ¬ off < 0 := by omega
    have t2 : decide (off < 0) = false := decide_eq_false h2
    have t3 : decide (2147483647 < off) = true := decide_eq_true h
    clear h2 h
    by_cases h1 : lsn < 1
    · go_wp2_with fail
      go_ret
      exact ⟨rfl, rfl⟩
    · have t1 : decide (lsn < 1) = false := decide_eq_false h1
      clear h1
      go_wp2_with fail
      go_ret
      exact ⟨rfl, rfl⟩
set_option maxRecDepth 100000 in
set_option maxHeartbeats 4000000 in
theorem ref_add_order (yb : Nat) (ll lo lsn off : Int) (w : World) (x2 : w.cell? ⟨yb, 2, none⟩ = some (.int .i64 ll)) (x3 : w.cell? ⟨yb, 3, none⟩ = some (.int .i64 lo))
    (r : 1 ≤ ll ∧ ll ≤ 9223372036854775807) (h1 : 1 ≤ lsn) (h0 : lsn ≤ 9223372036854775807) (h2 : 0 ≤ off) (h3 : off ≤ 2147483647) (h : lsn ≠ ll + 1 ∨ off ≤ lo) :
    Calls Try.prog 45 #[.pointer (some ⟨yb, 0, none⟩), .int .i64 lsn, .int .i64 off] w fun e w' => e = .returned (.int .i64 63) ∧ w = w' := by
  have HH := Lib.hid h
  have RR := Lib.hid r
  have t1 : decide (lsn < 1) = false := decide_eq_false (by omega)
  have t2 : decide (off < 0) = false := decide_eq_false (by omega)
  have t3 : decide (2147483647 < off) = false := decide_eq_false (by omega)
  have t4 : decide (0 < ll) = true := decide_eq_true (by omega)
  have z2 : IntKind.i64.wrap (lsn - 1) = lsn - 1 := IntWalk.i64_in _ (by omega)
  clear h r h1 h2 h3 h0
  go_enter Try.func45, Try.ntmps45
  by_cases q2 : lsn - 1 = ll
  · have z3 : (lsn - 1 != ll) = false := by simp [q2]
    have z4 : decide (off ≤ lo) = true := decide_eq_true (by have := HH.out; omega)
    clear q2
    go_wp2_with fail
    go_ret
    exact ⟨rfl, rfl⟩
  · have z3 : (lsn - 1 != ll) = true := by simp [q2]
    clear q2
    go_wp2_with fail
    go_ret
    exact ⟨rfl, rfl⟩
set_option maxRecDepth 100000 in
set_option maxHeartbeats 4000000 in
theorem ref_add_first (base yb n ca : Nat) (st : Int) (L : List EntV) (ao : Option Addr) (lsn off : Int) (w : World) (H : Hid (RefAt w base yb ⟨st, L, false, ⟨0, 0⟩⟩ ao n ca)) (ok : Hid (IdxOk ⟨st, L, false, ⟨0, 0⟩⟩)) (HB : Hid (base ≤ w.heap.size)) (h1 : 1 ≤ lsn) (h2 : 0 ≤ off) (h3 : off ≤ 2147483647) :
    Calls Try.prog 45 #[.pointer (some ⟨yb, 0, none⟩), .int .i64 lsn, .int .i64 off] w fun e w' => ∃ ao' n' ca', e = .returned (.int .i64 0) ∧ RefAt w' base yb ⟨st, L ++ [⟨lsn, off⟩], true, ⟨lsn, off⟩⟩ ao' n' ca' ∧ Turned w w' yb (.slice ao n ca) (.slice ao' n' ca') := by
  have hL0 : L.length = 0 := by have := ok.out.told; simp at this; simp [this]
  obtain rfl : n = 0 := by have := H.out.len.1; dsimp only at this; omega
  have HLL : Hid ((⟨st, L, true, ⟨lsn, off⟩⟩ : IdxV).l.length ≤ 8796093022207) := Lib.hid (by dsimp only; omega)
  have R5 := Lib.hid (ref_last H.out true ⟨lsn, off⟩)
  have x2 := cell_of_row _ _ 2 _ _ _ H.out.row
  have x3 := cell_of_row _ _ 3 _ _ _ H.out.row
  have f2 := frozen_of_row _ _ 2 _ _ H.out.row
  have f3 := frozen_of_row _ _ 3 _ _ H.out.row
  have y1 := cell_of_row _ _ 1 _ _ _ H.out.row
  have t1 : decide (lsn < 1) = false := decide_eq_false (by omega)
  have t2 : decide (off < 0) = false := decide_eq_false (by omega)
  have t3 : decide (2147483647 < off) = false := decide_eq_false (by omega)
  dsimp only at x2 x3 y1
  clear h1 h2 h3 hL0
  go_enter Try.func45, Try.ntmps45
  go_wp2_with fail
  go_quiet (fail)
  have HQ := Lib.hid (show RefAt ((((w.setCell ⟨yb, 2, none⟩ (.int .i64 lsn)).setCell ⟨yb, 3, none⟩ (.int .i64 off))).drewN nq) base yb ⟨st, L, true, ⟨lsn, off⟩⟩ ao 0 ca from R5.out.1.keep (below_drewN _ _))
  have TQ := Lib.hid (show Turned w ((((w.setCell ⟨yb, 2, none⟩ (.int .i64 lsn)).setCell ⟨yb, 3, none⟩ (.int .i64 off))).drewN nq) yb (.slice ao 0 ca) (.slice ao 0 ca) from R5.out.2.trans (Turned.of_below _ _ (below_drewN _ _)))
  obtain ⟨w7, hw7⟩ : ∃ w7, ((((w.setCell ⟨yb, 2, none⟩ (.int .i64 lsn)).setCell ⟨yb, 3, none⟩ (.int .i64 off))).drewN nq) = w7 := ⟨_, rfl⟩
  rw [hw7] at HQ TQ
  rw [hw7]
  have H7 := HQ
  have HB7 := Lib.hid (show base ≤ w7.heap.size from Nat.le_trans HB.out TQ.out.size)
  clear hw7 x2 x3 f2 f3 y1 R5 HQ
  go_wp2_with fail
  have q0 : ∀ p : In (RefR yb lsn off (.slice ao 0 ca)), p.w.cell? ⟨yb, 1, none⟩ = some (.slice ao 0 ca) := fun p => p.h.x1
  have q1 : ∀ p : In (RefR yb lsn off (.slice ao 0 ca)), p.w.cell? ⟨yb, 2, none⟩ = some (.int .i64 lsn) := fun p => p.h.x2
  have q2 : ∀ p : In (RefR yb lsn off (.slice ao 0 ca)), p.w.cell? ⟨yb, 3, none⟩ = some (.int .i64 off) := fun p => p.h.x3
  refine wp_region_mixed_tail [0, 1, 2, 3, 4, 5, 6, 7, 8, 9, 10, 11, 12] 13 (RefR yb lsn off (.slice ao 0 ca)) (by kernel_rfl) (by kernel_rfl) (by intro c a d v w h; cases d <;> exact h) ((refR_row H7.out.row).below (below_drew _)) ?_
  intro hne
  simp only [pick, List.map_cons, List.map_nil, List.getD_cons_zero, List.getD_cons_succ, List.drop_succ_cons, List.drop_zero]
  refine wpMix_reads 9 _ (by kernel_rfl) ?_
  simp only [List.take_succ_cons, List.take_zero, List.drop_succ_cons, List.drop_zero]
  repeat (go_big_quiet_step (fail))
  refine wpQuiet_nil ?_
  refine wpMix_act rfl ?_ rfl
  go_wp2_with fail
  have B8 := Lib.hid (below_trans (below_drew w7) (below_alloc w7.drew (.cells #[.int .i64 lsn, .int .i64 off] 64)))
  have NC := Lib.hid (ent_new w7.drew ⟨lsn, off⟩)
  have H8 := Lib.hid (H7.out.keep B8.out)
  refine ⟨⟨⟨_, refR_row H8.out.row⟩, rfl⟩, ?_⟩
  refine wpMix_act rfl ?_ rfl
  go_wp2_with (refine wpList_append_ent (o := ⟨some 86, _, _, _, _, _⟩) rfl _ _ rfl base (.slice ao 0 ca) _ rfl H8.out.own _ ⟨lsn, off⟩ rfl NC.out HLL.out (Nat.le_trans HB7.out B8.out.size) ?_)
  intro v3 w3 ho3 hg3 hw3
  obtain ⟨a3, c3, hv3, -⟩ := (HeldE.of_own ho3).shape
  obtain ⟨n3, hn3⟩ : ∃ n3, ((⟨st, L, true, ⟨lsn, off⟩⟩ : IdxV).l ++ [(⟨lsn, off⟩ : EntV)]).length = n3 := ⟨_, rfl⟩
  rw [show ((⟨st, L, true, ⟨lsn, off⟩⟩ : IdxV).l ++ [(⟨lsn, off⟩ : EntV)]).length = n3 from hn3] at hv3
  subst hv3
  have P3 := Lib.hid (ref_push B8.out H8.out ho3 hg3 (fun j hj => (hw3 j hj).imp id fun h => by omega))
  have k1 := cell_of_row _ _ 1 _ _ _ P3.out.row
  have f1 := frozen_of_row _ _ 1 _ _ P3.out.row
  clear ho3 hg3 hw3 hn3
  go_wp2_with fail
  refine ⟨⟨⟨_, refR_row P3.out.row⟩, rfl⟩, ?_⟩
  refine wpMix_reads 2 _ (by kernel_rfl) ?_
  simp only [List.take_succ_cons, List.take_zero, List.drop_succ_cons, List.drop_zero]
  repeat (go_big_quiet_step (fail))
  refine wpQuiet_nil ?_
  refine wpMix_nil ?_
  clear hne q0 q1 q2
  change wpList _ _ _ _ _ _
  go_wp2_with fail
  go_ret
  exact ⟨a3, n3, c3, rfl, P3.out.at', TQ.out.trans P3.out.turned⟩
def RMoreB (w : World) (base yb : Nat) (st : Int) (L : List EntV) (lsn off : Int) (v : Value) (e : Ending) (w' : World) : Prop :=
  ∃ L' ao' n' ca', (st ≤ off - (lastE L).off ∧ L' = L ++ [⟨lsn, off⟩] ∨ ¬ st ≤ off - (lastE L).off ∧ L' = L) ∧ e = .returned (.int .i64 0) ∧ RefAt w' base yb ⟨st, L', true, ⟨lsn, off⟩⟩ ao' n' ca' ∧ Turned w w' yb v (.slice ao' n' ca')
set_option maxRecDepth 100000 in
set_option maxHeartbeats 8000000 in
theorem ref_add_more (base yb n ca : Nat) (st ll lo : Int) (L : List EntV) (ao : Option Addr) (lsn off : Int) (w : World) (H : Hid (RefAt w base yb ⟨st, L, true, ⟨ll, lo⟩⟩ ao n ca)) (ok : Hid (IdxOk ⟨st, L, true, ⟨ll, lo⟩⟩)) (HB : Hid (base ≤ w.heap.size)) (h1 : 1 ≤ lsn) (h0 : lsn ≤ 9223372036854775807) (h2 : 0 ≤ off) (h3 : off ≤ 2147483647)
    (g2 : lsn = ll + 1) (g3 : lo < off) :
    Calls Try.prog 45 #[.pointer (some ⟨yb, 0, none⟩), .int .i64 lsn, .int .i64 off] w (RMoreB w base yb st L lsn off (.slice ao n ca)) := by
  have hL0 : 1 ≤ L.length := ok.out.told.1 rfl
  have hn0 := H.out.len.1
  dsimp only at hn0
  obtain ⟨m, rfl⟩ : ∃ m, n = m + 1 := ⟨n - 1, by omega⟩
  have HLL : Hid ((⟨st, L, true, ⟨lsn, off⟩⟩ : IdxV).l.length ≤ 8796093022207) := Lib.hid (by have := ok.out.len; dsimp only at *; omega)
  have HE := ok.out.ent m (by dsimp only; omega)
  obtain ⟨e0, he0⟩ : ∃ e0, nthE L m = e0 := ⟨_, rfl⟩
  have HL1 := Lib.hid (show lastE L = e0 from by unfold lastE; rw [hn0, Nat.add_sub_cancel, he0])
  have R5 := Lib.hid (ref_last H.out true ⟨lsn, off⟩)
  obtain ⟨g, rfl, -, hc, -⟩ := (HeldE.of_own H.out.own).get (i := m) (by dsimp only; omega)
  have c1 : w.cell? ⟨g, m * 2 + 1, none⟩ = some (.int .i64 e0.off) := by rw [← he0]; exact hc.c1
  have gx : g ≠ yb := fun e => own_row_ne H.out.own H.out.row (by rw [e]; rfl)
  have gx2 : yb ≠ g := fun e => gx e.symm
  dsimp only at HE
  rw [he0] at HE
  have x2 := cell_of_row _ _ 2 _ _ _ H.out.row
  have x3 := cell_of_row _ _ 3 _ _ _ H.out.row
  have f2 := frozen_of_row _ _ 2 _ _ H.out.row
  have f3 := frozen_of_row _ _ 3 _ _ H.out.row
  have y0 := cell_of_row _ _ 0 _ _ _ H.out.row
  have y1 := cell_of_row _ _ 1 _ _ _ H.out.row
  have t1 : decide (lsn < 1) = false := decide_eq_false (by omega)
  have t2 : decide (off < 0) = false := decide_eq_false (by omega)
  have t3 : decide (2147483647 < off) = false := decide_eq_false (by omega)
  have lr := ok.out.low rfl
  dsimp only at x2 x3 y0 y1 lr
  have t4 : decide (0 < ll) = true := decide_eq_true (by omega)
  have z2 : IntKind.i64.wrap (lsn - 1) = lsn - 1 := IntWalk.i64_in _ (by omega)
  have z3 : (lsn - 1 != ll) = false := by simp; omega
  have z4 : decide (off ≤ lo) = false := decide_eq_false (by omega)
  have z5 : IntKind.i64.wrap (off - e0.off) = off - e0.off := IntWalk.i64_in _ (by omega)
  have z6 : ((m : Int) + 1 == 0) = false := by simp; omega
  have mz : (m : Int) ≤ 2147483648 := by have := ok.out.len; dsimp only at this; omega
  clear h1 h2 h3 h0 hL0 g2 g3 hn0 HE he0 hc lr
  go_enter Try.func45, Try.ntmps45
  by_cases hl : st ≤ off - e0.off
  · have HD := Lib.hid hl
    go_wp2_with fail
    go_quiet (fail)
    have HQ := Lib.hid (show RefAt ((((w.setCell ⟨yb, 2, none⟩ (.int .i64 lsn)).setCell ⟨yb, 3, none⟩ (.int .i64 off))).drewN nq) base yb ⟨st, L, true, ⟨lsn, off⟩⟩ (some ⟨g, 0, none⟩) (m + 1) ca from R5.out.1.keep (below_drewN _ _))
    have TQ := Lib.hid (show Turned w ((((w.setCell ⟨yb, 2, none⟩ (.int .i64 lsn)).setCell ⟨yb, 3, none⟩ (.int .i64 off))).drewN nq) yb (.slice (some ⟨g, 0, none⟩) (m + 1) ca) (.slice (some ⟨g, 0, none⟩) (m + 1) ca) from R5.out.2.trans (Turned.of_below _ _ (below_drewN _ _)))
    obtain ⟨w7, hw7⟩ : ∃ w7, ((((w.setCell ⟨yb, 2, none⟩ (.int .i64 lsn)).setCell ⟨yb, 3, none⟩ (.int .i64 off))).drewN nq) = w7 := ⟨_, rfl⟩
    rw [hw7] at HQ TQ
    rw [hw7]
    have H7 := HQ
    have HB7 := Lib.hid (show base ≤ w7.heap.size from Nat.le_trans HB.out TQ.out.size)
    clear hw7 x2 x3 f2 f3 y0 y1 R5 HQ c1 z2 z3 z4 z5 z6 hl
    go_wp2_with fail
    have q0 : ∀ p : In (RefR yb lsn off (.slice (some ⟨g, 0, none⟩) (m + 1) ca)), p.w.cell? ⟨yb, 1, none⟩ = some (.slice (some ⟨g, 0, none⟩) (m + 1) ca) := fun p => p.h.x1
    have q1 : ∀ p : In (RefR yb lsn off (.slice (some ⟨g, 0, none⟩) (m + 1) ca)), p.w.cell? ⟨yb, 2, none⟩ = some (.int .i64 lsn) := fun p => p.h.x2
    have q2 : ∀ p : In (RefR yb lsn off (.slice (some ⟨g, 0, none⟩) (m + 1) ca)), p.w.cell? ⟨yb, 3, none⟩ = some (.int .i64 off) := fun p => p.h.x3
    refine wp_region_mixed_tail [0, 1, 2, 3, 4, 5, 6, 7, 8, 9, 10, 11, 12] 13 (RefR yb lsn off (.slice (some ⟨g, 0, none⟩) (m + 1) ca)) (by kernel_rfl) (by kernel_rfl) (by intro c a d v w h; cases d <;> exact h) ((refR_row H7.out.row).below (below_drew _)) ?_
    intro hne
    simp only [pick, List.map_cons, List.map_nil, List.getD_cons_zero, List.getD_cons_succ, List.drop_succ_cons, List.drop_zero]
    refine wpMix_reads 9 _ (by kernel_rfl) ?_
    simp only [List.take_succ_cons, List.take_zero, List.drop_succ_cons, List.drop_zero]
    repeat (go_big_quiet_step (fail))
    refine wpQuiet_nil ?_
    refine wpMix_act rfl ?_ rfl
    go_wp2_with fail
    have B8 := Lib.hid (below_trans (below_drew w7) (below_alloc w7.drew (.cells #[.int .i64 lsn, .int .i64 off] 64)))
    have NC := Lib.hid (ent_new w7.drew ⟨lsn, off⟩)
    have H8 := Lib.hid (H7.out.keep B8.out)
    refine ⟨⟨⟨_, refR_row H8.out.row⟩, rfl⟩, ?_⟩
    refine wpMix_act rfl ?_ rfl
    go_wp2_with (refine wpList_append_ent (o := ⟨some 86, _, _, _, _, _⟩) rfl _ _ rfl base (.slice (some ⟨g, 0, none⟩) (m + 1) ca) _ rfl H8.out.own _ ⟨lsn, off⟩ rfl NC.out HLL.out (Nat.le_trans HB7.out B8.out.size) ?_)
    intro v3 w3 ho3 hg3 hw3
    obtain ⟨a3, c3, hv3, -⟩ := (HeldE.of_own ho3).shape
    obtain ⟨n3, hn3⟩ : ∃ n3, ((⟨st, L, true, ⟨lsn, off⟩⟩ : IdxV).l ++ [(⟨lsn, off⟩ : EntV)]).length = n3 := ⟨_, rfl⟩
    rw [show ((⟨st, L, true, ⟨lsn, off⟩⟩ : IdxV).l ++ [(⟨lsn, off⟩ : EntV)]).length = n3 from hn3] at hv3
    subst hv3
    have P3 := Lib.hid (ref_push B8.out H8.out ho3 hg3 (fun j hj => (hw3 j hj).imp id fun h => by omega))
    have k1 := cell_of_row _ _ 1 _ _ _ P3.out.row
    have f1 := frozen_of_row _ _ 1 _ _ P3.out.row
    clear ho3 hg3 hw3 hn3
    go_wp2_with fail
    refine ⟨⟨⟨_, refR_row P3.out.row⟩, rfl⟩, ?_⟩
    refine wpMix_reads 2 _ (by kernel_rfl) ?_
    simp only [List.take_succ_cons, List.take_zero, List.drop_succ_cons, List.drop_zero]
    repeat (go_big_quiet_step (fail))
    refine wpQuiet_nil ?_
    refine wpMix_nil ?_
    clear hne q0 q1 q2
    change wpList _ _ _ _ _ _
    go_wp2_with fail
    go_ret
    exact ⟨_, a3, n3, c3, .inl ⟨by rw [HL1.out]; exact HD.out, rfl⟩, rfl, P3.out.at', TQ.out.trans P3.out.turned⟩
  · have HD := Lib.hid hl
    have hl2 : decide (st ≤ off - e0.off) = false := decide_eq_false hl
    clear hl
    go_wp2_with fail
    go_quiet (fail)
    have HQ := Lib.hid (show RefAt ((((w.setCell ⟨yb, 2, none⟩ (.int .i64 lsn)).setCell ⟨yb, 3, none⟩ (.int .i64 off))).drewN nq) base yb ⟨st, L, true, ⟨lsn, off⟩⟩ (some ⟨g, 0, none⟩) (m + 1) ca from R5.out.1.keep (below_drewN _ _))
    have TQ := Lib.hid (show Turned w ((((w.setCell ⟨yb, 2, none⟩ (.int .i64 lsn)).setCell ⟨yb, 3, none⟩ (.int .i64 off))).drewN nq) yb (.slice (some ⟨g, 0, none⟩) (m + 1) ca) (.slice (some ⟨g, 0, none⟩) (m + 1) ca) from R5.out.2.trans (Turned.of_below _ _ (below_drewN _ _)))
    go_wp2_with fail
    go_ret
    exact ⟨_, _, _, _, .inr ⟨by rw [HL1.out]; have := HD.out; omega, rfl⟩, rfl, HQ.out, TQ.out⟩
def RAddB (w : World) (base yb : Nat) (X : IdxV) (lsn off : Int) (v : Value) (e : Ending) (w' : World) : Prop := ∃ Y er ao' n' ca', AddIs X lsn off Y er ∧ e = .returned (.int .i64 er) ∧ RefAt w' base yb Y ao' n' ca' ∧ Turned w w' yb v (.slice ao' n' ca')
/-- Add. -/
theorem ref_add (base yb n ca : Nat) (X : IdxV) (ao : Option Addr) (lsn off : Int) (w : World) (H : Hid (RefAt w base yb X ao n ca)) (ok : Hid (IdxOk X)) (HB : Hid (base ≤ w.heap.size)) (hm : lsn ≤ 9223372036854775807) :
    Calls Try.prog 45 #[.pointer (some ⟨yb, 0, none⟩), .int .i64 lsn, .int .i64 off] w (RAddB w base yb X lsn off (.slice ao n ca)) := by
  obtain ⟨st, L, t, ⟨ll, lo⟩⟩ := X
  by_cases hA : BadArg lsn off
  · refine (ref_add_arg yb lsn off w hA).mono ?_
    rintro e w' ⟨rfl, rfl⟩
    exact ⟨_, _, _, _, _, .inl ⟨hA, rfl, rfl⟩, rfl, H.out, Turned.of_below _ _ (Below.refl _ _)⟩
  · have hA2 : 1 ≤ lsn ∧ 0 ≤ off ∧ off ≤ 2147483647 := by unfold BadArg at hA; omega
    cases t with
    | false =>
      have hz : (⟨ll, lo⟩ : EntV) = ⟨0, 0⟩ := ok.out.none rfl
      injection hz with hz1 hz2
      subst hz1 hz2
      have hl : L.length = 0 := by
        rcases Nat.eq_zero_or_pos L.length with h | h
        · exact h
        · have := ok.out.told.2 h; cases this
      refine (ref_add_first base yb n ca st L ao lsn off w H ok HB hA2.1 hA2.2.1 hA2.2.2).mono ?_
      rintro e w' ⟨ao', n', ca', rfl, h1, h2⟩
      exact ⟨_, _, _, _, _, .inr (.inr (.inl ⟨hA, fun h => (by cases h.1), .inl hl, rfl, rfl⟩)), rfl, h1, h2⟩
    | true =>
      have hlr : 1 ≤ ll ∧ ll ≤ 9223372036854775807 := ⟨ok.out.low rfl, ok.out.lsn.2⟩
      by_cases hO : BadOrder ⟨st, L, true, ⟨ll, lo⟩⟩ lsn off
      · have hO1 := hO.2
        dsimp only at hO1
        refine (ref_add_order yb ll lo lsn off w (cell_of_row _ _ 2 _ _ _ H.out.row) (cell_of_row _ _ 3 _ _ _ H.out.row) hlr hA2.1 hm hA2.2.1 hA2.2.2 (by omega)).mono ?_
        rintro e w' ⟨rfl, rfl⟩
        exact ⟨_, _, _, _, _, .inr (.inl ⟨hA, hO, rfl, rfl⟩), rfl, H.out, Turned.of_below _ _ (Below.refl _ _)⟩
      · have hO2 : lsn = ll + 1 ∧ lo < off := by
          unfold BadOrder at hO
          simp only [true_and, not_or] at hO
          omega
        refine (ref_add_more base yb n ca st ll lo L ao lsn off w H ok HB hA2.1 hm hA2.2.1 hA2.2.2 hO2.1 hO2.2).mono ?_
        rintro e w' ⟨L', ao', n', ca', hL, rfl, h1, h2⟩
        have h0 : 1 ≤ L.length := ok.out.told.1 rfl
        rcases hL with ⟨h3, rfl⟩ | ⟨h3, rfl⟩
        · exact ⟨_, _, _, _, _, .inr (.inr (.inl ⟨hA, hO, .inr h3, rfl, rfl⟩)), rfl, h1, h2⟩
        · exact ⟨_, _, _, _, _, .inr (.inr (.inr ⟨hA, hO, (by unfold LaidE; dsimp only; omega), rfl, rfl⟩)), rfl, h1, h2⟩
end Go.Proofs.Ytmkljmljbbijeaa

/-! The document's index: Cut walked. -/
namespace Go.Proofs.Ytmkljmljbbijeaa
open Go.RowKit

/-- The list, set. -/
theorem ref_list {w : World} {base yb : Nat} {X : IdxV} {ao : Option Addr} {n ca m : Nat} (h : RefAt w base yb X ao n ca) (hm : m ≤ n) :
    RefAt (w.drew.setCell ⟨yb, 1, none⟩ (.slice ao m ca)) base yb ⟨X.step, X.l.take m, X.told, X.last⟩ ao m ca ∧ Turned w (w.drew.setCell ⟨yb, 1, none⟩ (.slice ao m ca)) yb (.slice ao n ca) (.slice ao m ca) := by
  have hc := h.own.cut hm
  have ob : (Value.slice ao m ca).ownBlock = (Value.slice ao n ca).ownBlock := by cases ao <;> rfl
  have hr : w.drew.heap[yb]? = _ := h.row
  refine ⟨⟨row_set hr 1 _, rows_congr hc fun q hq => far_set (w := w.drew) (fun e => own_row_ne hc h.row (e ▸ hq)), h.low⟩, ⟨rfl, rfl, rfl, ?_, fun q _ h1 _ => far_set (w := w.drew) h1, fun j hj => .inl (ob ▸ hj)⟩⟩
  rw [set_sz]
  exact Nat.le_refl _
/-- The last frame, set twice. -/
theorem last8 {w : World} {base yb : Nat} {X : IdxV} {ao : Option Addr} {n ca : Nat} (h : RefAt w base yb X ao n ca) (e : EntV) :
    RefAt (((((w.setCell ⟨yb, 2, none⟩ (.int .i64 0)).setCell ⟨yb, 3, none⟩ (.int .i64 0)).drew.setCell ⟨yb, 2, none⟩ (.int .i64 e.lsn))).setCell ⟨yb, 3, none⟩ (.int .i64 e.off)) base yb ⟨X.step, X.l, true, e⟩ ao n ca ∧
    Turned w (((((w.setCell ⟨yb, 2, none⟩ (.int .i64 0)).setCell ⟨yb, 3, none⟩ (.int .i64 0)).drew.setCell ⟨yb, 2, none⟩ (.int .i64 e.lsn))).setCell ⟨yb, 3, none⟩ (.int .i64 e.off)) yb (.slice ao n ca) (.slice ao n ca) := by
  have h1 := ref_last h true ⟨0, 0⟩
  have h2 := h1.1.keep (below_drew _)
  have h3 := ref_last h2 true e
  exact ⟨h3.1, h1.2.trans ((Turned.of_below _ _ (below_drew _)).trans h3.2)⟩
structure RCutR (yb g m : Nat) (v : Value) (e : EntV) (w : World) : Prop where
  x1 : w.cell? ⟨yb, 1, none⟩ = some v
  d0 : w.cell? ⟨g, m * 2, none⟩ = some (.int .i64 e.lsn)
  d1 : w.cell? ⟨g, m * 2 + 1, none⟩ = some (.int .i64 e.off)
theorem RCutR.below {yb g m : Nat} {v : Value} {e : EntV} {w w' : World} (h : RCutR yb g m v e w) (hb : Below w.heap.size w w') : RCutR yb g m v e w' := ⟨cell_keep hb h.x1, cell_keep hb h.d0, cell_keep hb h.d1⟩
/-- What the loop has cut. -/
structure RCutI (w : World) (base yb : Nat) (X : IdxV) (ao : Option Addr) (n ca m : Nat) (lsn : Int) (wr : World) : Prop where
  at' : RefAt wr base yb ⟨X.step, X.l.take m, X.told, X.last⟩ ao m ca
  turned : Turned w wr yb (.slice ao n ca) (.slice ao m ca)
  above : ∀ j, m ≤ j → j < X.l.length → lsn ≤ (nthE X.l j).lsn
def RCutQ (w : World) (base yb : Nat) (X : IdxV) (lsn : Int) (v : Value) (e : Ending) (w' : World) : Prop := ∃ Y gone ao' n' ca', CutE X lsn Y gone ∧ e = .returned (.int .i64 gone) ∧ RefAt w' base yb Y ao' n' ca' ∧ Turned w w' yb v (.slice ao' n' ca')

set_option maxRecDepth 100000 in
set_option maxHeartbeats 8000000 in
theorem ref_cut_more (base yb n ca : Nat) (X : IdxV) (ao : Option Addr) (lsn : Int) (w : World) (H : Hid (RefAt w base yb X ao n ca)) (ok : Hid (IdxOk X)) (ht : X.told = true) (hl : lsn ≤ X.last.lsn) :
    Calls Try.prog 48 #[.pointer (some ⟨yb, 0, none⟩), .int .i64 lsn] w (RCutQ w base yb X lsn (.slice ao n ca)) := by
  have HT := Lib.hid ht
  have HL := Lib.hid hl
  have x2 := cell_of_row _ _ 2 _ _ _ H.out.row
  have HN := Lib.hid H.out.len.1
  have n64 : (n : Int) ≤ 2147483648 := by have := ok.out.len; have := HN.out; omega
  have lw := ok.out.low ht
  have t1 : (X.last.lsn == 0) = false := by simp; omega
  have t2 : decide (X.last.lsn < lsn) = false := decide_eq_false (by omega)
  have S0 := Lib.hid (show RCutI w base yb X ao n ca n lsn w from ⟨⟨H.out.row, by rw [List.take_of_length_le (by have := HN.out; omega)]; exact H.out.own, H.out.low⟩, Turned.of_below _ _ (Below.refl _ _), fun j h1 h2 => by have := HN.out; omega⟩)
  clear ht hl lw
  go_enter Try.func48, Try.ntmps48
  go_wp2_with fail
  go_loopw [5] (fun i wr => ∃ j m : Nat, j + m = n ∧ i = .int .i64 j ∧ Hid (RCutI w base yb X ao n ca m lsn wr)) (fun i _ => n - (intOf i).toNat)
  case atStart => exact ⟨0, n, by omega, rfl, S0⟩
  case round =>
    clear S0 x2 t1 t2
    obtain ⟨j, m, hjm, rfl, HI⟩ := hrel
    have y1 := cell_of_row _ _ 1 _ _ _ HI.out.at'.row
    by_cases hc : ∃ p, m = p + 1 ∧ lsn ≤ (nthE X.l p).lsn
    · obtain ⟨p, rfl, hp⟩ := hc
      obtain ⟨g, rfl, -, hcc, -⟩ := (HeldE.of_own HI.out.at'.own).get (i := p) (by dsimp only; rw [List.length_take]; have := HN.out; omega)
      obtain ⟨d0, -⟩ := hcc
      dsimp only at d0
      rw [nthE_take (by omega)] at d0
      have HP := Lib.hid hp
      have HJ := Lib.hid hjm
      have mz : (p : Int) ≤ 2147483648 := by omega
      have jz : (j : Int) ≤ 2147483648 := by omega
      have pz : 0 < (p : Int) + 1 := by omega
      have hle := HI.out.at'.len.2.1
      have pc : (p : Int) + 1 ≤ (ca : Int) := by omega
      have pc2 : (p : Int) ≤ (ca : Int) := by omega
      clear hjm hle
      go_wp2_with fail
      go_quiet (fail)
      obtain ⟨w5, hw5⟩ : ∃ w5, wr.drewN nq = w5 := ⟨_, rfl⟩
      rw [hw5]
      have b5 : Below wr.heap.size wr w5 := by rw [← hw5]; exact below_drewN _ _
      have A5 := Lib.hid (HI.out.at'.keep b5)
      have T5 := Lib.hid (HI.out.turned.trans (Turned.of_below _ _ b5))
      have R5 := Lib.hid (ref_list A5.out (m := p) (by omega))
      have k1 := cell_of_row _ _ 1 _ _ _ A5.out.row
      have f1 := frozen_of_row _ _ 1 _ _ A5.out.row
      have q0 : ∀ p' : In (fun w' => w'.cell? ⟨yb, 1, none⟩ = some (.slice (some ⟨g, 0, none⟩) (p + 1) ca)), p'.w.cell? ⟨yb, 1, none⟩ = some (.slice (some ⟨g, 0, none⟩) (p + 1) ca) := fun p' => p'.h
      clear b5 hw5 y1 d0
      go_wp2_with fail
      refine wp_region_mixed_tail [0, 1, 2, 3, 4, 5, 6, 7, 8, 9, 10, 11, 12, 13] 14 (fun w2 => w2.cell? ⟨yb, 1, none⟩ = some (.slice (some ⟨g, 0, none⟩) (p + 1) ca)) (by kernel_rfl) (by kernel_rfl) (by intro c a d v w h; cases d <;> exact h) k1 ?_
      intro hne
      simp only [pick, List.map_cons, List.map_nil, List.getD_cons_zero, List.getD_cons_succ, List.drop_succ_cons, List.drop_zero]
      refine wpMix_reads 14 _ (by kernel_rfl) ?_
      simp only [List.take_succ_cons, List.take_zero, List.drop_succ_cons, List.drop_zero]
      repeat (go_big_quiet_step (fail))
      refine wpQuiet_nil ?_
      refine wpMix_nil ?_
      clear hne q0
      change wpList _ _ _ _ _ _
      go_wp2_with fail
      have NI := Lib.hid (show RCutI w base yb X (some ⟨g, 0, none⟩) n ca p lsn (w5.drew.setCell ⟨yb, 1, none⟩ (.slice (some ⟨g, 0, none⟩) p ca)) from ⟨by
        have := R5.out.1
        rw [show (X.l.take (p + 1)).take p = X.l.take p by rw [List.take_take, Nat.min_eq_left (by omega)]] at this
        exact this, T5.out.trans R5.out.2, fun i h1 h2 => by
        rcases Nat.eq_or_lt_of_le h1 with e | e
        · subst e; exact HP.out
        · exact HI.out.above i e h2⟩)
      go_roundw
      case rel => exact ⟨j + 1, p, by have := HJ.out; omega, by go_num, NI⟩
      case measure => have := HJ.out; simp [intOf]; omega
    · have HC := Lib.hid hc
      have F := Lib.hid (show FromIs X.l lsn m from ⟨by have := HN.out; omega, fun t h1 => by
        rcases Nat.eq_or_lt_of_le (show t + 1 ≤ m by omega) with e | e
        · have h2 : ¬ lsn ≤ (nthE X.l t).lsn := fun h => HC.out ⟨t, e.symm, h⟩
          omega
        · have h2 : ¬ lsn ≤ (nthE X.l (m - 1)).lsn := fun h => HC.out ⟨m - 1, by omega, h⟩
          have h3 := ok.out.le (i := t) (j := m - 1) (by omega) (by have := HN.out; omega)
          omega, HI.out.above⟩)
      have HJ := Lib.hid hjm
      have jz : (j : Int) ≤ 2147483648 := by omega
      clear hc hjm
      rcases Nat.eq_zero_or_pos m with h0 | h0
      · subst h0
        have A5 := HI.out.at'
        have k2 := cell_of_row _ _ 2 _ _ _ A5.row
        have k3 := cell_of_row _ _ 3 _ _ _ A5.row
        have f2 := frozen_of_row _ _ 2 _ _ A5.row
        have f3 := frozen_of_row _ _ 3 _ _ A5.row
        dsimp only at k2 k3
        have A5 := Lib.hid A5
        go_wp2_with fail
        go_quiet (fail)
        have A6 := Lib.hid (A5.out.keep (below_drewN wr nq))
        have T6 := Lib.hid (HI.out.turned.trans (Turned.of_below yb (.slice ao 0 ca) (below_drewN wr nq)))
        have P := Lib.hid (ref_last A6.out false ⟨0, 0⟩)
        go_wp2_with fail
        go_ret
        refine ⟨cutV X 0, _, _, _, _, .inr ⟨HT.out, HL.out, 0, F.out, rfl, rfl⟩, ?_, P.out.1, T6.out.trans P.out.2⟩
        have := HN.out
        have := HJ.out
        simp; omega
      · obtain ⟨p, rfl⟩ : ∃ p, m = p + 1 := ⟨m - 1, by omega⟩
        obtain ⟨g, rfl, -, hcc, -⟩ := (HeldE.of_own HI.out.at'.own).get (i := p) (by dsimp only; rw [List.length_take]; have := HN.out; have := HJ.out; omega)
        obtain ⟨d0, d1⟩ := hcc
        dsimp only at d0 d1
        rw [nthE_take (by omega)] at d0 d1
        have hlt : (nthE X.l p).lsn < lsn := F.out.2.1 p (by omega)
        have t3 : decide (lsn ≤ (nthE X.l p).lsn) = false := decide_eq_false (by omega)
        have mz : (p : Int) ≤ 2147483648 := by have := HJ.out; omega
        have pz : 0 < (p : Int) + 1 := by omega
        have gx : g ≠ yb := fun e => own_row_ne HI.out.at'.own HI.out.at'.row (by rw [e]; rfl)
        have gx2 : yb ≠ g := fun e => gx e.symm
        have k2 := cell_of_row _ _ 2 _ _ _ HI.out.at'.row
        have k3 := cell_of_row _ _ 3 _ _ _ HI.out.at'.row
        have f2 := frozen_of_row _ _ 2 _ _ HI.out.at'.row
        have f3 := frozen_of_row _ _ 3 _ _ HI.out.at'.row
        dsimp only at k2 k3
        clear hlt h0
        go_wp2_with fail
        go_quiet (fail)
        have A6 := Lib.hid (HI.out.at'.keep (below_drewN wr nq))
        have T6 := Lib.hid (HI.out.turned.trans (Turned.of_below yb (.slice (some ⟨g, 0, none⟩) (p + 1) ca) (below_drewN wr nq)))
        have P := Lib.hid (ref_last A6.out true ⟨0, 0⟩)
        have R6 := Lib.hid (show RCutR yb g p (.slice (some ⟨g, 0, none⟩) (p + 1) ca) (nthE X.l p) (((wr.drewN nq).setCell ⟨yb, 2, none⟩ (.int .i64 0)).setCell ⟨yb, 3, none⟩ (.int .i64 0)) from by
          obtain ⟨g', e', -, hcc, -⟩ := (HeldE.of_own P.out.1.own).get (i := p) (by dsimp only; rw [List.length_take]; have := HN.out; have := HJ.out; omega)
          injection e' with e'
          injection e' with e'
          subst e'
          obtain ⟨u0, u1⟩ := hcc
          dsimp only at u0 u1
          rw [nthE_take (by omega)] at u0 u1
          exact ⟨cell_of_row _ _ 1 _ _ _ P.out.1.row, u0, u1⟩)
        have T7 := Lib.hid (T6.out.trans P.out.2)
        have W8 := Lib.hid (last8 A6.out (nthE X.l p))
        have q0 : ∀ p' : In (RCutR yb g p (.slice (some ⟨g, 0, none⟩) (p + 1) ca) (nthE X.l p)), p'.w.cell? ⟨yb, 1, none⟩ = some (.slice (some ⟨g, 0, none⟩) (p + 1) ca) := fun p' => p'.h.x1
        have q1 : ∀ p' : In (RCutR yb g p (.slice (some ⟨g, 0, none⟩) (p + 1) ca) (nthE X.l p)), p'.w.cell? ⟨g, p * 2, none⟩ = some (.int .i64 (nthE X.l p).lsn) := fun p' => p'.h.d0
        have q2 : ∀ p' : In (RCutR yb g p (.slice (some ⟨g, 0, none⟩) (p + 1) ca) (nthE X.l p)), p'.w.cell? ⟨g, p * 2 + 1, none⟩ = some (.int .i64 (nthE X.l p).off) := fun p' => p'.h.d1
        clear d0 d1
        go_wp2_with fail
        refine wp_region_mixed_tail [0, 1, 2, 3, 4, 5, 6, 7, 8, 9, 10, 11, 12, 13, 14] 15 (RCutR yb g p (.slice (some ⟨g, 0, none⟩) (p + 1) ca) (nthE X.l p)) (by kernel_rfl) (by kernel_rfl) (by intro c a d v w h; cases d <;> exact h) (R6.out.below (below_drew _)) ?_
        intro hne
        simp only [pick, List.map_cons, List.map_nil, List.getD_cons_zero, List.getD_cons_succ, List.drop_succ_cons, List.drop_zero]
        refine wpMix_reads 15 _ (by kernel_rfl) ?_
        simp only [List.take_succ_cons, List.take_zero, List.drop_succ_cons, List.drop_zero]
        repeat (go_big_quiet_step (fail))
        refine wpQuiet_nil ?_
        refine wpMix_nil ?_
        clear hne q0 q1 q2
        change wpList _ _ _ _ _ _
        go_wp2_with fail
        go_ret
        refine ⟨cutV X (p + 1), _, _, _, _, .inr ⟨HT.out, HL.out, p + 1, F.out, rfl, rfl⟩, ?_, ?_, T6.out.trans W8.out.2⟩
        · have := HN.out
          have := HJ.out
          simp; omega
        · have e : lastE (X.l.take (p + 1)) = nthE X.l p := by
            unfold lastE
            rw [List.length_take, Nat.min_eq_left (by have := HN.out; have := HJ.out; omega), Nat.add_sub_cancel, nthE_take (by omega)]
          have := W8.out.1
          unfold cutV
          rw [e]
          exact this
set_option maxRecDepth 100000 in
theorem ref_cut (base yb n ca : Nat) (X : IdxV) (ao : Option Addr) (lsn : Int) (w : World) (H : Hid (RefAt w base yb X ao n ca)) (ok : Hid (IdxOk X)) :
    Calls Try.prog 48 #[.pointer (some ⟨yb, 0, none⟩), .int .i64 lsn] w (RCutQ w base yb X lsn (.slice ao n ca)) := by
  by_cases hc : X.told = true ∧ lsn ≤ X.last.lsn
  · exact ref_cut_more base yb n ca X ao lsn w H ok hc.1 hc.2
  · have x2 := cell_of_row _ _ 2 _ _ _ H.out.row
    have D := Lib.hid (show CutE X lsn X 0 from .inl ⟨by
      rcases hb : X.told with _ | _
      · exact .inl rfl
      · right
        have : ¬ lsn ≤ X.last.lsn := fun h => hc ⟨hb, h⟩
        omega, rfl, rfl⟩)
    have lr := Lib.hid ok.out.lsn
    have hc2 := Lib.hid (show X.last.lsn = 0 ∨ X.last.lsn < lsn from by
      rcases hb : X.told with _ | _
      · left; rw [ok.out.none hb]
      · right
        have : ¬ lsn ≤ X.last.lsn := fun h => hc ⟨hb, h⟩
        omega)
    clear hc
    go_enter Try.func48, Try.ntmps48
    by_cases h0 : X.last.lsn = 0
    · have t1 : (X.last.lsn == 0) = true := by simp [h0]
      clear h0
      go_wp2_with fail
      go_ret
      exact ⟨_, _, _, _, _, D.out, rfl, H.out, Turned.of_below _ _ (Below.refl _ _)⟩
    · have t1 : (X.last.lsn == 0) = false := by simp [h0]
      have t2 : decide (X.last.lsn < lsn) = true := decide_eq_true (by have := hc2.out; omega)
      clear h0
      go_wp2_with fail
      go_ret
      exact ⟨_, _, _, _, _, D.out, rfl, H.out, Turned.of_below _ _ (Below.refl _ _)⟩
end Go.Proofs.Ytmkljmljbbijeaa

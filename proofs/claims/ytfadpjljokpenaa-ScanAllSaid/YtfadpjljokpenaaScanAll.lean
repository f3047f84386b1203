/- The walk of flumelaw7's ScanAll. -/
import Derived.Test.YtfadpjljokpenaaRefFind
import Derived.Test.YtfadpjljokpenaaRoundQuiet
import Derived.Test.YtfadpjljokpenaaBackBut
import Derived.Test.YtfadpjljokpenaaApartX
import Derived.Test.YtfadpjljokpenaaOpenU64s
namespace Go.Proofs.Ytfadpjljokpenaa
open Go.RowKit Go.Shelf
attribute [local go_sem] Oper.semAt_some

theorem scan_differ (a b c d y : Int) (u : World) : (binOp .neq 57 (.agg #[.int .i64 a, .int .i64 b, .int .i64 c, .int .u32 d, .int .i64 y]) (.agg #[.int .i64 a, .int .i64 b, .int .i64 c, .int .u32 d, .int .i64 y])).run Try.prog u = .ok (.bool false) u := by
  simp [go_sem]
theorem results_bool {fn : Func} {p : Tmp} (h : fn.results = #[.cell p 4]) (tmps : Array Value) (w : World) (b : Nat) (x : Value)
    (hp : tmps.getD p undef = .pointer (some ⟨b, 0, none⟩)) (c0 : w.cell? ⟨b, 0, none⟩ = some x) :
    (results fn tmps).run Try.prog w = .ok x w := by
  have hp' : tmps[p]?.getD undef = .pointer (some ⟨b, 0, none⟩) := by simpa using hp
  simp [results, h, hp', go_sem, c0, asAddr, loadVar, Result.andThen, Sem.run_bind]
theorem mine_front {w wr : World} {g : Nat} {bs ms : List (BitVec 8)} (h : Mine w wr g (bs ++ ms)) : BytesAt wr (some ⟨g, 0, none⟩) bs := by
  have := h.at.take bs.length
  rwa [List.take_left] at this
/-- How many records are told. -/
theorem told_len {bs : List (BitVec 8)} {base : Int} {seed : BitVec 32} {most : Int} {rs : List PRec} {n : Nat} (h : RecordsIs bs base seed most rs) (he : EndsAt bs base seed n) :
    rs.length ≤ n ∧ (if 0 < (if (n : Int) < most then (n : Int) else most) then (if (n : Int) < most then (n : Int) else most) else 0) = (rs.length : Int) := by
  obtain ⟨ht, h⟩ := h
  have hle : rs.length ≤ n := by
    rcases he with ⟨h1, rfl⟩ | ⟨h1, he⟩
    · rcases h with ⟨_, rfl⟩ | ⟨_, _, h⟩
      · exact Nat.le_refl _
      · rcases h with (⟨_, h⟩ | ⟨h, _⟩) | ⟨_, h⟩ <;> omega
    · rcases Nat.lt_or_ge n rs.length with hlt | hge
      · exact (he.2 (ht n _ (List.getElem?_eq_getElem hlt)).1).elim
      · exact hge
  refine ⟨hle, ?_⟩
  rcases h with ⟨h, rfl⟩ | ⟨h1, h2, h⟩
  · rw [if_neg (show ¬ (n : Int) < most by omega), if_neg (by omega)]; rfl
  · have key : (rs.length : Int) = n ∨ (rs.length : Int) = most := by
      rcases h with h | ⟨h, _⟩
      · left
        rcases h with ⟨h, h'⟩ | ⟨h, h'⟩ <;> rcases he with ⟨k, k'⟩ | ⟨k, k'⟩
        · omega
        · omega
        · omega
        · rw [h'.uniq k']
      · exact .inr h
    split <;> split <;> omega
/-- A post that no panic meets. -/
def noPanic (Q : Exit → Act → World → Prop) : Exit → Act → World → Prop
  | .panic _, _, _ => False
  | e, a, w => Q e a w
theorem noPanic_le {Q : Exit → Act → World → Prop} : ∀ e a w, noPanic Q e a w → Q e a w := fun e a w h => by
  cases e <;> first | exact h | exact h.elim
theorem noPanic_ret {Q : Exit → Act → World → Prop} {a : Act} {w : World} (h : Q .ret a w) : noPanic Q .ret a w := h
/-- Cells that hold. -/
def CellsW (L : List (Addr × Value)) (w : World) : Prop := ∀ q ∈ L, w.cell? q.1 = some q.2
theorem CellsW.on {L : List (Addr × Value)} {w w' : World} (h : CellsW L w) (hb : Below w.heap.size w w') : CellsW L w' := fun q hq => cell_keep hb (h q hq)
theorem CellsW.get {L : List (Addr × Value)} {w : World} (h : CellsW L w) (i : Nat) {a : Addr} {v : Value} (hi : L[i]? = some (a, v)) : w.cell? a = some v := h (a, v) (List.mem_of_getElem? hi)
theorem cells_five {w : World} {b : Nat} {T : TypeId} {v0 v1 v2 v3 v4 : Value} (h : w.heap[b]? = some (.cells #[v0, v1, v2, v3, v4] T (0, 0))) : CellsW [(⟨b, 0, none⟩, v0), (⟨b, 1, none⟩, v1), (⟨b, 2, none⟩, v2), (⟨b, 3, none⟩, v3), (⟨b, 4, none⟩, v4)] w := by
  intro q hq
  simp only [List.mem_cons, List.not_mem_nil, or_false] at hq
  rcases hq with rfl | rfl | rfl | rfl | rfl
  · exact cell_of_row _ _ 0 _ _ _ h
  · exact cell_of_row _ _ 1 _ _ _ h
  · exact cell_of_row _ _ 2 _ _ _ h
  · exact cell_of_row _ _ 3 _ _ _ h
  · exact cell_of_row _ _ 4 _ _ _ h

/-- What a Keep leaves: all but its box and its list. -/
structure Past (w w' : World) : Prop where
  size : w.heap.size ≤ w'.heap.size
  block : ∀ (p : Nat) (o : Obj), w.heap[p]? = some o → (∀ cur fr, o ≠ .cells cur 30 fr) → (∀ cur fr, o ≠ .cells cur 31 fr) → w'.heap[p]? = some o
section
variable {w w1 w' : World}
theorem Past.trans (h : Past w w1) (k : Past w1 w') : Past w w' := ⟨Nat.le_trans h.size k.size, fun p o hp h1 h2 => k.block p o (h.block p o hp h1 h2) h1 h2⟩
theorem Past.of_below (h : Below w.heap.size w w') : Past w w' := ⟨h.size, fun p _ hp _ _ => (h.block p (heap_lt hp)).trans hp⟩
theorem Past.of_keep {kb lo z : Nat} {lv : Value} {xs : List Value} (hK : Kept w kb lo lv z xs) (hs : w.heap.size ≤ w'.heap.size) (hF : ∀ p, p < w.heap.size → p ≠ kb → lv.ownBlock ≠ some p → w'.heap[p]? = w.heap[p]?) : Past w w' :=
  ⟨hs, fun p _ hp h1 h2 => (hF p (heap_lt hp) (fun e => by
    subst e
    exact h1 _ _ (Option.some.inj (hp.symm.trans hK.box))) (fun e => by
    obtain ⟨_, cur, hc⟩ := rows_blk hK.list e
    exact h2 _ _ (Option.some.inj (hp.symm.trans hc)))).trans hp⟩
theorem Past.cells (h : Past w w') {p : Nat} {cur : Array Value} {e : TypeId} {fr : Nat × Nat} (hp : w.heap[p]? = some (.cells cur e fr)) (h1 : e ≠ 30) (h2 : e ≠ 31) : w'.heap[p]? = some (.cells cur e fr) :=
  h.block p _ hp (fun _ _ e' => h1 (by injection e')) (fun _ _ e' => h2 (by injection e'))
theorem Past.own (h : Past w w') {lo : Nat} {v : Value} {bs : List (BitVec 8)} (ho : OwnB w lo v bs) : OwnB w' lo v bs := rows_congr ho fun g hg => by
  obtain ⟨_, cur, hc⟩ := rows_blk ho hg
  exact (h.cells hc (by decide) (by decide)).trans hc.symm
theorem Past.row (h : Past w w') {e : TypeId} {size lo : Nat} {cs : PRec → List Value} {lv : Value} {l : List PRec} (hr : RowAt e size cs w lo lv l) (h1 : e ≠ 30) (h2 : e ≠ 31) : RowAt e size cs w' lo lv l :=
  ⟨rows_congr hr.row fun g hg => by
    obtain ⟨_, cur, hc⟩ := rows_blk hr.row hg
    exact (h.cells hc h1 h2).trans hc.symm, fun p hp => h.own (hr.own p hp), hr.apart⟩
end
/-- Records that are told: the same, place by place. -/
theorem told_same {bs : List (BitVec 8)} {s0 : ScV} {l r : List PRec} (h : Told bs s0 l) (k : Told bs s0 r) {j : Nat} {p q : PRec} (hp : l[j]? = some p) (hq : r[j]? = some q) : p.off = q.off ∧ p.lsn = q.lsn ∧ p.d = q.d := by
  obtain ⟨_, a, b, c⟩ := h j p hp
  obtain ⟨_, a', b', c'⟩ := k j q hq
  exact ⟨a.trans a'.symm, b.trans b'.symm, c.trans c'.symm⟩
theorem told_small {bs : List (BitVec 8)} {s0 : ScV} {l : List PRec} (h : Told bs s0 l) {j : Nat} {p : PRec} (hp : l[j]? = some p) : p.d.length ≤ 4096 := by
  obtain ⟨hg, _, _, hd⟩ := h j p hp
  obtain ⟨_, _, r3, _⟩ := rF_ok hg.2.1
  rw [hd]
  exact r3
theorem own_at {w : World} {lo n c : Nat} {a : Option Addr} {bs : List (BitVec 8)} (h : OwnB w lo (.slice a n c) bs) : BytesAt w a bs := by
  obtain ⟨a', c', hv, hx, -⟩ := h.slice
  injection hv with h1
  subst h1
  exact hx
/-- One list that comes. -/
theorem come_one {w : World} {lo la : Nat} {xs : List Value} {v : Value} {bs : List (BitVec 8)} (hc : w.cell? ⟨la, 0, none⟩ = some v) (ho : OwnB w lo v bs) (hl : bs.length ≤ 281474976710656) (hn : ∀ x ∈ xs, v.ownBlock = none ∨ x.ownBlock ≠ v.ownBlock) : Come w lo la xs [v] 0 := by
  have one : ∀ (j : Nat) (u : Value), [v][j]? = some u → j = 0 ∧ v = u := fun j u hu => by
    cases j with
    | zero => exact ⟨rfl, by simpa using hu⟩
    | succ j => simp at hu
  refine ⟨fun j u _ hu => ?_, fun j u _ hu => ?_, fun j u _ hu g hg x hx e => ?_, fun i j x y hij hx hy => ?_⟩
  · obtain ⟨rfl, rfl⟩ := one j u hu
    exact hc
  · obtain ⟨rfl, rfl⟩ := one j u hu
    exact ⟨bs, ho, hl⟩
  · obtain ⟨rfl, rfl⟩ := one j u hu
    rcases hn x hx with h | h
    · rw [h] at hg; cases hg
    · exact h (e.trans hg.symm)
  · obtain ⟨rfl, -⟩ := one i x hx
    obtain ⟨rfl, -⟩ := one j y hy
    omega
/-- Where the keeping of the records stands. -/
structure LoopB (P : Nat → Prop) (w0 : World) (kb : Nat) (rv : Value) (rs : List PRec) (k : Nat) (lv : Value) (z : Nat) (xs : List Value) (w : World) : Prop where
  kept : Kept w kb w0.heap.size lv z xs
  short : Short xs
  off : Off P w0 w
  kp : w.heap[kb + 1]? = some (.cells #[.pointer (some ⟨kb, 0, none⟩)] 27 (0, 0))
  row : RowAt 34 2 cells2 w w0.heap.size rv rs
  new : ∀ j p, k ≤ j → rs[j]? = some p → ∀ x ∈ xs, p.v.ownBlock = none ∨ x.ownBlock ≠ p.v.ownBlock
theorem Off.then_below {P : Nat → Prop} {w0 w w' : World} (h : Off P w0 w) (hb : Below w0.heap.size w w') : Off P w0 w' :=
  ⟨hb.os.trans h.os, hb.tape.trans h.tape, hb.output.trans h.output, Nat.le_trans h.size hb.size, fun k hk hp => (hb.block k hk).trans (h.block k hk hp)⟩
section
variable {P : Nat → Prop} {w0 w w' : World} {kb k z : Nat} {rv lv : Value} {rs : List PRec} {xs : List Value}
theorem LoopB.keep (h : LoopB P w0 kb rv rs k lv z xs w) (hb : Below w.heap.size w w') : LoopB P w0 kb rv rs k lv z xs w' :=
  ⟨h.kept.keep hb, h.short, h.off.then_below (hb.mono h.off.size), (hb.block _ (heap_lt h.kp)).trans h.kp, h.row.keep hb, h.new⟩
theorem LoopB.below (h : LoopB (fun _ => False) w0 kb rv rs k lv z xs w) : Below w0.heap.size w0 w := ⟨h.off.os, h.off.tape, h.off.output, h.off.size, fun j hj => h.off.block j hj (fun h => h)⟩
/-- Behind a Keep of the k-th. -/
theorem LoopB.next (h : LoopB P w0 kb rv rs k lv z xs w) {p : PRec} (hp : rs[k]? = some p) {lv' : Value} {z' : Nat} {xs' : List Value} (hK : Kept w' kb w0.heap.size lv' z' xs') (hB : Below w0.heap.size w w') (hF : ∀ q, q < w.heap.size → q ≠ kb → lv.ownBlock ≠ some q → w'.heap[q]? = w.heap[q]?) (hS : Short xs') (hM : ∀ x ∈ xs', x ∈ xs ∨ x ∈ [p.v]) :
    LoopB P w0 kb rv rs (k + 1) lv' z' xs' w' := by
  have hp' := Past.of_keep h.kept hB.size hF
  refine ⟨hK, hS, h.off.then_below hB, hp'.cells h.kp (by decide) (by decide), hp'.row h.row (by decide) (by decide), fun j q hj hq x hx => ?_⟩
  rcases hM x hx with hx | hx
  · exact h.new j q (by omega) hq x hx
  · obtain rfl := List.mem_singleton.1 hx
    obtain ⟨hk, hpk⟩ := List.getElem?_eq_some_iff.1 hp
    obtain ⟨hj', hqj⟩ := List.getElem?_eq_some_iff.1 hq
    have := List.pairwise_iff_getElem.1 h.row.apart k j hk hj' (by omega)
    rw [hpk, hqj] at this
    rcases this with h' | h'
    · rcases hqo : q.v.ownBlock with _ | g
      · exact .inl rfl
      · exact .inr (by rw [h']; exact fun e => by cases e)
    · exact .inr h'
end

section
variable {P : Nat → Prop} {w0 w w' : World} {kb z : Nat} {rv lv : Value} {rs : List PRec} {xs : List Value}
/-- What is kept, alone. -/
theorem LoopB.drop {k : Nat} (h : LoopB P w0 kb rv rs k lv z xs w) : LoopB P w0 kb (.slice none 0 0) [] 0 lv z xs w :=
  ⟨h.kept, h.short, h.off, h.kp, RowAt.nil _ _ _ _ _, fun j p _ hp => by simp at hp⟩
theorem LoopB.again (h : LoopB P w0 kb (.slice none 0 0) [] 0 lv z xs w) {lv' : Value} {z' : Nat} {xs' : List Value} (hK : Kept w' kb w0.heap.size lv' z' xs') (hB : Below w0.heap.size w w') (hF : ∀ q, q < w.heap.size → q ≠ kb → lv.ownBlock ≠ some q → w'.heap[q]? = w.heap[q]?) (hS : Short xs') :
    LoopB P w0 kb (.slice none 0 0) [] 0 lv' z' xs' w' :=
  ⟨hK, hS, h.off.then_below hB, (Past.of_keep h.kept hB.size hF).cells h.kp (by decide) (by decide), RowAt.nil _ _ _ _ _, fun j p _ hp => by simp at hp⟩
/-- What lies behind is none of the kept. -/
theorem LoopB.fresh {k : Nat} (h : LoopB P w0 kb rv rs k lv z xs w) {w2 : World} {v : Value} {bs : List (BitVec 8)} {n : Nat} (ho : OwnB w2 n v bs) (hn : w.heap.size ≤ n) : ∀ x ∈ xs, v.ownBlock = none ∨ x.ownBlock ≠ v.ownBlock := fun x hx => by
  cases hv : v.ownBlock with
  | none => exact .inl rfl
  | some g =>
    refine .inr fun e => ?_
    obtain ⟨⟨b, hb⟩, _⟩ := h.kept.elem x hx
    obtain ⟨_, _, h1⟩ := rows_blk hb e
    have h2 := (rows_blk ho hv).1
    have := heap_lt h1
    omega
end
section
variable {P Q : Nat → Prop} {w0 w w' : World} {kb k z : Nat} {rv lv : Value} {rs : List PRec} {xs : List Value}
/-- None of the blocks of what is kept is of a kind. -/
def Clear (P : Nat → Prop) (lv : Value) (xs : List Value) : Prop := (∀ g, lv.ownBlock = some g → ¬ P g) ∧ ∀ x ∈ xs, ∀ g, x.ownBlock = some g → ¬ P g
theorem LoopB.move (h : LoopB P w0 kb (.slice none 0 0) [] 0 lv z xs w) (hc : Clear Q lv xs) (hb : Off Q w w') (h1 : ¬ Q kb) (h2 : ¬ Q (kb + 1)) (h3 : ∀ j, j < w0.heap.size → Q j → P j) : LoopB P w0 kb (.slice none 0 0) [] 0 lv z xs w' := by
  refine ⟨h.kept.move (hb.block kb (heap_lt h.kept.box) h1) (fun g hg => ?_) (fun x hx g hg => ?_), h.short, ⟨hb.os.trans h.off.os, hb.tape.trans h.off.tape, hb.output.trans h.off.output, Nat.le_trans h.off.size hb.size, fun j hj hp => ?_⟩, (hb.block _ (heap_lt h.kp) h2).trans h.kp, RowAt.nil _ _ _ _ _, fun j p _ hp => by simp at hp⟩
  · obtain ⟨_, _, hc'⟩ := rows_blk h.kept.list hg
    exact hb.block g (heap_lt hc') (hc.1 g hg)
  · obtain ⟨⟨_, ho⟩, _⟩ := h.kept.elem x hx
    obtain ⟨_, _, hc'⟩ := rows_blk ho hg
    exact hb.block g (heap_lt hc') (hc.2 x hx g hg)
  · exact (hb.block j (Nat.lt_of_lt_of_le hj h.off.size) (fun hq => hp (h3 j hj hq))).trans (h.off.block j hj hp)
theorem LoopB.clear_int (h : LoopB P w0 kb (.slice none 0 0) [] 0 lv z xs w) {c : Nat} {cur : Array Value} {fr : Nat × Nat} (hc : w.heap[c]? = some (.cells cur 3 fr)) : Clear (fun j => j = c) lv xs ∧ c ≠ kb ∧ c ≠ kb + 1 := by
  refine ⟨⟨fun g hg e => ?_, fun x hx g hg e => ?_⟩, fun e => ?_, fun e => ?_⟩
  · subst e
    obtain ⟨_, _, h1⟩ := rows_blk h.kept.list hg
    have := hc.symm.trans h1
    injection this with this; injection this with _ this; exact absurd this (by decide)
  · subst e
    obtain ⟨⟨_, ho⟩, _⟩ := h.kept.elem x hx
    obtain ⟨_, _, h1⟩ := rows_blk ho hg
    have := hc.symm.trans h1
    injection this with this; injection this with _ this; exact absurd this (by decide)
  · subst e
    have := hc.symm.trans h.kept.box
    injection this with this; injection this with _ this; exact absurd this (by decide)
  · subst e
    have := hc.symm.trans h.kp
    injection this with this; injection this with _ this; exact absurd this (by decide)
theorem LoopB.but (h : LoopB (fun _ => False) w0 kb (.slice none 0 0) [] 0 lv z xs w) {g : Nat} (hu : But g w w') (hg : g < w0.heap.size) : LoopB (fun j => j = g) w0 kb (.slice none 0 0) [] 0 lv z xs w' := by
  have hk := h.kept.low
  refine ⟨h.kept.but hu hg, h.short, ⟨hu.os.trans h.off.os, hu.tape.trans h.off.tape, hu.output.trans h.off.output, Nat.le_trans h.off.size hu.size, fun j hj hp => ?_⟩, (hu.block _ (heap_lt h.kp) (by omega)).trans h.kp, RowAt.nil _ _ _ _ _, fun j p _ hp => by simp at hp⟩
  exact (hu.block j (Nat.lt_of_lt_of_le hj h.off.size) hp).trans (h.off.block j hj (fun h => h))
theorem LoopB.old (h : LoopB P w0 kb rv rs k lv z xs w) : Clear (fun j => w.heap.size ≤ j) lv xs := by
  refine ⟨fun g hg hq => ?_, fun x hx g hg hq => ?_⟩
  · obtain ⟨_, _, h1⟩ := rows_blk h.kept.list hg
    have := heap_lt h1
    omega
  · obtain ⟨⟨_, ho⟩, _⟩ := h.kept.elem x hx
    obtain ⟨_, _, h1⟩ := rows_blk ho hg
    have := heap_lt h1
    omega
end
theorem EachAt.but {n0 bN bS bO cap g : Nat} {ao : Option Addr} {bs : List (BitVec 8)} {base : Int} {seed : BitVec 32} {W W' : World} (h : EachAt n0 bN bS bO ao cap bs base seed W) (hu : But g W W') (hg : g < n0) : EachAt n0 bN bS bO ao cap bs base seed W' :=
  ⟨hu.cell h.cN (show bN ≠ g by have := h.gN; omega), hu.cell h.cS (show bS ≠ g by have := h.gS; omega), hu.cell h.cO (show bO ≠ g by have := h.gO; omega), hu.bytes h.bytes (fun g' off e => by have := h.gB g' off e; omega), h.nil, h.le, h.max, h.gN, h.gS, h.gO, h.gB⟩
theorem EachAt.same {n0 m bN bS bO cap : Nat} {ao : Option Addr} {bs : List (BitVec 8)} {base : Int} {seed : BitVec 32} {W W' : World} (h : EachAt n0 bN bS bO ao cap bs base seed W) (hN : bN < m) (hS : bS < m) (hO : bO < m) (hB : ∀ g o, ao = some ⟨g, o, none⟩ → 0 < bs.length → g < m) (hs : ∀ k, n0 ≤ k → k < m → W'.heap[k]? = W.heap[k]?) : EachAt n0 bN bS bO ao cap bs base seed W' :=
  ⟨(World.cell?_of_block (a := ⟨bN, 0, none⟩) (hs bN h.gN hN)).trans h.cN, (World.cell?_of_block (a := ⟨bS, 0, none⟩) (hs bS h.gS hS)).trans h.cS, (World.cell?_of_block (a := ⟨bO, 0, none⟩) (hs bO h.gO hO)).trans h.cO, fun i hi => by
    obtain ⟨g, o, e, hc⟩ := h.bytes i hi
    exact ⟨g, o, e, (World.cell?_of_block (a := ⟨g, o + i, none⟩) (hs g (h.gB g o e) (hB g o e (by omega)))).trans hc⟩, h.nil, h.le, h.max, h.gN, h.gS, h.gO, h.gB⟩
/-- Where a turn stands: i records told; dd: blocks that are as they were in R. -/
def TurnI (g : Nat) (w5 : World) (kb bi bt : Nat) (tn : Int) (R : World) (dd P : Nat → Prop) (i : Nat) (W : World) : Prop :=
  ∃ lv z xs, LoopB (fun j => j = g) w5 kb (.slice none 0 0) [] 0 lv z xs W ∧ Clear P lv xs ∧ W.heap[bi]? = some (.cells #[.int .i64 (i : Nat)] 3 (0, 0)) ∧ W.heap[bt]? = some (.cells #[.int .i64 tn] 3 (0, 0)) ∧ ∀ k, dd k → k < W.heap.size ∧ W.heap[k]? = R.heap[k]?
/-- The blocks that a turn's rounds must leave: P; those that the iterator turns: M. -/
structure Apt (w5 : World) (kb bi bt : Nat) (dd P M : Nat → Prop) : Prop where
  k0 : ¬ P kb
  k1 : ¬ P (kb + 1)
  i : ¬ P bi
  t : ¬ P bt
  low : ∀ k, k < w5.heap.size → ¬ P k
  sub : ∀ k, M k → P k
  dP : ∀ k, dd k → P k
  dM : ∀ k, dd k → ¬ M k
theorem TurnI.move {g : Nat} {w5 R : World} {kb bi bt : Nat} {tn : Int} {dd P M Q : Nat → Prop} {i : Nat} {W W' : World} (h : TurnI g w5 kb bi bt tn R dd P i W) (hb : Off Q W W') (hQ : ∀ k, Q k → M k) (ha : Apt w5 kb bi bt dd P M) : TurnI g w5 kb bi bt tn R dd P i W' := by
  obtain ⟨lv, z, xs, hL, hC, hi, ht, hd⟩ := h
  have hC' : Clear Q lv xs := ⟨fun g hg hq => hC.1 g hg (ha.sub _ (hQ g hq)), fun x hx g hg hq => hC.2 x hx g hg (ha.sub _ (hQ g hq))⟩
  exact ⟨lv, z, xs, hL.move hC' hb (fun h => ha.k0 (ha.sub _ (hQ _ h))) (fun h => ha.k1 (ha.sub _ (hQ _ h))) (fun j hj hq => (ha.low j hj (ha.sub _ (hQ _ hq))).elim), hC, (hb.block _ (heap_lt hi) (fun h => ha.i (ha.sub _ (hQ _ h)))).trans hi, (hb.block _ (heap_lt ht) (fun h => ha.t (ha.sub _ (hQ _ h)))).trans ht, fun k hk => ⟨Nat.lt_of_lt_of_le (hd k hk).1 hb.size, (hb.block _ (hd k hk).1 (fun h => ha.dM k hk (hQ _ h))).trans (hd k hk).2⟩⟩
/-- Behind a round. -/
def RdTo (g : Nat) (w5 : World) (kb bi bt : Nat) (tn : Int) (R : World) (dd P : Nat → Prop) (LL i : Nat) (W1 W : World) : Prop :=
  TurnI g w5 kb bi bt tn R dd P (i + 1) W ∧ W1.heap.size ≤ W.heap.size ∧ ∀ k, k < W1.heap.size → P k → k ≠ LL → W.heap[k]? = W1.heap[k]?
def RdN (tn : Int) (i : Nat) (R : World → Prop) (W : World) : Prop := (tn = 0 → i + 1 ≠ 3) ∧ R W
def RdX (tn : Int) (i : Nat) (R : World → Prop) (c : Code) (W : World) : Prop := c = .exit 6 ∧ tn = 0 ∧ i + 1 = 3 ∧ R W
/-- A Keep and the counting on, in a round. -/
theorem turn_next {g : Nat} {w0 R : World} {kb bi bt : Nat} {tn : Int} {dd P M : Nat → Prop} {i LL : Nat} {W1 W4 Wa W6 : World} {lv lv' : Value} {z z' : Nat} {xs xs' : List Value} {v : Value} {bs : List (BitVec 8)} {nb : Nat} (ha : Apt w0 kb bi bt dd P M)
    (hL : LoopB (fun j => j = g) w0 kb (.slice none 0 0) [] 0 lv z xs Wa) (hC : Clear P lv xs) (hi : Wa.heap[bi]? = some (.cells #[.int .i64 (i : Nat)] 3 (0, 0))) (ht : Wa.heap[bt]? = some (.cells #[.int .i64 tn] 3 (0, 0))) (hd : ∀ k, dd k → k < Wa.heap.size ∧ Wa.heap[k]? = R.heap[k]?)
    (hP : ∀ k, P k → k < W1.heap.size ∧ k < nb) (hbi : w0.heap.size ≤ bi) (h14 : ∀ k, k < W1.heap.size → k ≠ LL → W4.heap[k]? = W1.heap[k]?) (hs14 : W1.heap.size ≤ W4.heap.size) (h4a : Below W4.heap.size W4 Wa) (ho : OwnB Wa nb v bs)
    (hK : Kept W6 kb w0.heap.size lv' z' xs') (hB : Below w0.heap.size Wa W6) (hF : ∀ q, q < Wa.heap.size → q ≠ kb → lv.ownBlock ≠ some q → W6.heap[q]? = Wa.heap[q]?) (hS : Short xs') (hM : ∀ x ∈ xs', x ∈ xs ∨ x ∈ [v]) (hF2 : ∀ q, q < Wa.heap.size → q ≠ kb → lv.ownBlock ≠ some q → lv'.ownBlock ≠ some q) (hne : bi ≠ bt) :
    RdTo g w0 kb bi bt tn R dd P LL i W1 (W6.setCell ⟨bi, 0, none⟩ (.int .i64 ((i : Int) + 1))) ∧ W6.heap[bi]? = some (.cells #[.int .i64 (i : Nat)] 3 (0, 0)) ∧ W6.heap[bt]? = some (.cells #[.int .i64 tn] 3 (0, 0)) := by
  have hs := Nat.le_trans hs14 h4a.size
  have PS := Past.of_keep hL.kept hB.size hF
  have L6 := hL.again hK hB hF hS
  have i6 := PS.cells hi (by decide) (by decide)
  have t6 := PS.cells ht (by decide) (by decide)
  have C6 : Clear P lv' xs' := ⟨fun q hq h => hF2 q (Nat.lt_of_lt_of_le (hP q h).1 hs) (fun e => ha.k0 (e ▸ h)) (fun e => hC.1 q e h) hq, fun x hx q hq h => by
    rcases hM x hx with hx | hx
    · exact hC.2 x hx q hq h
    · obtain rfl := List.mem_singleton.1 hx
      have := (rows_blk ho hq).1
      have := (hP q h).2
      omega⟩
  obtain ⟨c7, n0, n1⟩ := L6.clear_int i6
  have hoff : Off (fun j => j = bi) W6 (W6.setCell ⟨bi, 0, none⟩ (.int .i64 ((i : Int) + 1))) := Off.set _ rfl
  refine ⟨⟨⟨lv', z', xs', L6.move c7 hoff (fun e => n0 e.symm) (fun e => n1 e.symm) (fun j hj e => by omega), C6, ?_, (hoff.block bt (heap_lt t6) hne.symm).trans t6, fun k hk => ?_⟩, Nat.le_trans hs (Nat.le_trans hB.size hoff.size), fun k hk hp hk' => ?_⟩, i6, t6⟩
  · rw [Go.Joins.block_setCell i6 _ (i := 0)]
    rfl
  · obtain ⟨d1, d2⟩ := hd k hk
    have hp := ha.dP k hk
    have d3 := Nat.lt_of_lt_of_le d1 hB.size
    exact ⟨Nat.lt_of_lt_of_le d3 hoff.size, (hoff.block k d3 (fun e => ha.i (e ▸ hp))).trans ((hF k d1 (fun e => ha.k0 (e ▸ hp)) (fun e => hC.1 k e hp)).trans d2)⟩
  · have a1 : k < Wa.heap.size := Nat.lt_of_lt_of_le hk hs
    exact (hoff.block k (Nat.lt_of_lt_of_le a1 hB.size) (fun e => ha.i (e ▸ hp))).trans ((hF k a1 (fun e => ha.k0 (e ▸ hp)) (fun e => hC.1 k e hp)).trans ((h4a.block k (Nat.lt_of_lt_of_le hk hs14)).trans (h14 k hk hk')))
/-- Behind a range over a function, whichever way it was left. -/
theorem range_or {P : Program} {l id n : Nat} {lo : Loop} {Q : Exit → Act → World → Prop} {a : Act} {W' : World} (S : World → Prop) (key : ∀ Wx, S Wx → Exit.inBlock id Q .normal a Wx)
    (h : (W'.heap[l]? = some (.loop lo) ∧ S (W'.putObj l (.loop (lst lo .exhausted none)))) ∨ (W'.heap[l]? = some (.loop (lst lo .done (some (.exit id)))) ∧ S (W'.putObj l (.loop (lst lo .exhausted (some (.exit id))))))) :
    (W'.heap[l]? = some (.loop lo) ∧ Exit.inBlock id Q .normal a (W'.putObj l (.loop (lst lo .exhausted none)))) ∨ (∃ c, W'.heap[l]? = some (.loop (lst lo .done (some c))) ∧ c.wpIn Fence.wide n P (Exit.inBlock id Q) a (W'.putObj l (.loop (lst lo .exhausted (some c))))) := by
  rcases h with ⟨h1, h2⟩ | ⟨h1, h2⟩
  · exact .inl ⟨h1, key _ h2⟩
  · refine .inr ⟨_, h1, wpIn_wide.2 (wp_exit ?_)⟩
    have := key _ h2
    simpa [Exit.inBlock] using this
set_option maxHeartbeats 64000000 in
set_option maxRecDepth 100000 in
theorem scan_all (ao : Option Addr) (bs : List (BitVec 8)) (cap : Nat) (base : Int) (seed : BitVec 32) (most : Int) (s : Option Addr) (L : List Int) (cl : Nat) (w : World) (hb : BytesAt w ao bs) (hz : ao = none → cap = 0) (hc : bs.length ≤ cap) (hm : cap ≤ 140737488351232)
    (h0 : -9223372036854775808 ≤ base) (h2 : base ≤ 9223372036854775807) (hL : IntsAt w s L) (lL : L.length ≤ 17592186043904) :
    Calls Try.prog 8 #[.slice ao bs.length cap, .int .i64 base, .int .u32 (bv seed), .int .i64 most, .slice s L.length cl] w (TrueBelow w) := by
  have HB := Lib.hid hb
  have HZ := Lib.hid hz
  have HLS := Lib.hid hL
  clear hb hz hL
  have BA := Lib.hid (below_alloc w (.cells #[.bool false] 4))
  have RA := Lib.hid (heap_alloc_new w (.cells #[.bool false] 4))
  refine (callsIn_wide (n := 9)).1 ?_
  refine callsIn_of_wp_marks Try.func8 rfl trivial ?_ rfl
  simp only [Try.ntmps8, List.size_toArray, List.length_cons, List.length_nil, Nat.reduceAdd, Nat.reduceSub, Array.replicate_succ, Array.replicate_zero, List.push_toArray, List.append_toArray, List.nil_append, List.cons_append]
  refine wpIn_wide.2 (Go.wp_mono ?_ noPanic_le)
  go_wp2_with fail
  refine (scan_begun _).mono ?_
  rintro e w1 ⟨rfl, hb1⟩
  have B1 := Lib.hid (below_trans BA.out hb1)
  have R1 := Lib.hid ((hb1.block w.heap.size (heap_lt RA.out)).trans RA.out)
  clear hb1 RA BA
  by_cases hl : ¬ bs.length ≤ 131072
  · have hl' : (131072 : Int) < (bs.length : Int) := by omega
    have z0 := cell_of_row _ _ 0 _ _ _ R1.out
    have fz0 := frozen_of_row _ _ 0 _ _ R1.out
    go_wp2_with fail
    refine noPanic_ret ?_
    exact ⟨_, results_bool rfl _ _ w.heap.size (.bool true) rfl (World.cell?_setCell_same _ _ _ z0), rfl, B1.out.setCell (p := ⟨w.heap.size, 0, none⟩) (Nat.le_refl _) _⟩
  have hl' : ¬ (131072 : Int) < (bs.length : Int) := by omega
  have hlb : bs.length ≤ 131072 := by omega
  clear hl
  go_wp2_with fail
  refine (lent ao bs cap _ (HB.out.below B1.out) HZ.out (by omega)).mono ?_
  rintro e w2 ⟨g, cg, rfl, hcg, hcm, hM⟩
  have B2 := Lib.hid (below_trans B1.out hM.below)
  have M2 := Lib.hid hM
  have R2 := Lib.hid ((hM.below.block w.heap.size (heap_lt R1.out)).trans R1.out)
  have GW := Lib.hid (show w.heap.size < g from Nat.lt_of_lt_of_le (heap_lt R1.out) hM.own)
  have GL0 : g < w2.heap.size := block_lt_of_cell (a := ⟨g, 0, none⟩) (hM.bytes 0 (by simp))
  have GL2 := Lib.hid GL0
  clear hM R1 GL0
  go_wp2_with fail
  refine (ref_all ao bs _ cap base _ seed _ rfl (HB.out.below B2.out) rfl HZ.out hc (by omega) (by omega) h2).mono ?_
  rintro e w3 ⟨t, y, av, l, hov, hto, hlen, rfl, hrow, hb3⟩
  obtain ⟨aa, ca, rfl⟩ := row_slice hrow.row
  have OV := Lib.hid hov
  have TO := Lib.hid hto
  have LEN := Lib.hid hlen
  have bq := below_trans (below_alloc w3 (.cells (scCells t y) 57)) (below_alloc (w3.alloc (.cells (scCells t y) 57)) (.cells #[.slice aa l.length ca] 58))
  have W3 := Lib.hid (((below_alloc (w3.alloc (.cells (scCells t y) 57)) (.cells #[.slice aa l.length ca] 58)).block w3.heap.size (by simp)).trans (heap_alloc_new w3 (.cells (scCells t y) 57)))
  have A3 := Lib.hid (heap_alloc_new (w3.alloc (.cells (scCells t y) 57)) (.cells #[.slice aa l.length ca] 58))
  have b3 := below_trans hb3 bq
  have B3 := Lib.hid (below_trans B2.out b3)
  have M3 := Lib.hid (M2.out.on b3)
  have R3 := Lib.hid ((b3.block w.heap.size (heap_lt R2.out)).trans R2.out)
  have ROW3 := Lib.hid ((hrow.keep bq).base (show w2.heap.size ≤ _ from Nat.le_refl _))
  unfold scVal
  rw [show (w3.alloc (.cells (scCells t y) 57)).heap.size = w3.heap.size + 1 by simp] at A3
  unfold scCells at W3 A3 B3 M3 R3 ROW3
  have GL3 := Lib.hid (show g < w3.heap.size from Nat.lt_of_lt_of_le GL2.out hb3.size)
  clear hov hto hlen hrow hb3 bq b3 M2 R2 B2
  obtain ⟨w4, hw4⟩ : ∃ w4, (w3.alloc (.cells #[.int .i64 t.count, .int .i64 t.end_, .int .i64 t.next, .int .u32 (bv t.seed), .int .i64 y] 57)).alloc (.cells #[.slice aa l.length ca] 58) = w4 := ⟨_, rfl⟩
  rw [hw4] at W3 A3 B3 M3 R3 ROW3
  have HW4 := Lib.hid hw4
  clear hw4
  have CC := Lib.hid (cells_five W3.out)
  have g0 : ∀ p : In (CellsW [(⟨w3.heap.size, 0, none⟩, .int .i64 t.count), (⟨w3.heap.size, 1, none⟩, .int .i64 t.end_), (⟨w3.heap.size, 2, none⟩, .int .i64 t.next), (⟨w3.heap.size, 3, none⟩, .int .u32 (bv t.seed)), (⟨w3.heap.size, 4, none⟩, .int .i64 y)]), p.w.cell? ⟨w3.heap.size, 0, none⟩ = some (.int .i64 t.count) := fun p => p.h.get 0 rfl
  have g1 : ∀ p : In (CellsW [(⟨w3.heap.size, 0, none⟩, .int .i64 t.count), (⟨w3.heap.size, 1, none⟩, .int .i64 t.end_), (⟨w3.heap.size, 2, none⟩, .int .i64 t.next), (⟨w3.heap.size, 3, none⟩, .int .u32 (bv t.seed)), (⟨w3.heap.size, 4, none⟩, .int .i64 y)]), p.w.cell? ⟨w3.heap.size, 1, none⟩ = some (.int .i64 t.end_) := fun p => p.h.get 1 rfl
  have g2 : ∀ p : In (CellsW [(⟨w3.heap.size, 0, none⟩, .int .i64 t.count), (⟨w3.heap.size, 1, none⟩, .int .i64 t.end_), (⟨w3.heap.size, 2, none⟩, .int .i64 t.next), (⟨w3.heap.size, 3, none⟩, .int .u32 (bv t.seed)), (⟨w3.heap.size, 4, none⟩, .int .i64 y)]), p.w.cell? ⟨w3.heap.size, 2, none⟩ = some (.int .i64 t.next) := fun p => p.h.get 2 rfl
  have g3 : ∀ p : In (CellsW [(⟨w3.heap.size, 0, none⟩, .int .i64 t.count), (⟨w3.heap.size, 1, none⟩, .int .i64 t.end_), (⟨w3.heap.size, 2, none⟩, .int .i64 t.next), (⟨w3.heap.size, 3, none⟩, .int .u32 (bv t.seed)), (⟨w3.heap.size, 4, none⟩, .int .i64 y)]), p.w.cell? ⟨w3.heap.size, 3, none⟩ = some (.int .u32 (bv t.seed)) := fun p => p.h.get 3 rfl
  have g4 : ∀ p : In (CellsW [(⟨w3.heap.size, 0, none⟩, .int .i64 t.count), (⟨w3.heap.size, 1, none⟩, .int .i64 t.end_), (⟨w3.heap.size, 2, none⟩, .int .i64 t.next), (⟨w3.heap.size, 3, none⟩, .int .u32 (bv t.seed)), (⟨w3.heap.size, 4, none⟩, .int .i64 y)]), p.w.cell? ⟨w3.heap.size, 4, none⟩ = some (.int .i64 y) := fun p => p.h.get 4 rfl
  go_wp2_with fail
  rw [HW4.out]
  clear HW4
  refine wp_region_mixed [0, 1, 2, 4, 3, 5] (CellsW [(⟨w3.heap.size, 0, none⟩, .int .i64 t.count), (⟨w3.heap.size, 1, none⟩, .int .i64 t.end_), (⟨w3.heap.size, 2, none⟩, .int .i64 t.next), (⟨w3.heap.size, 3, none⟩, .int .u32 (bv t.seed)), (⟨w3.heap.size, 4, none⟩, .int .i64 y)]) (by kernel_rfl) (by kernel_rfl) (by intro c a d v w h; cases d <;> exact h) (CC.out.on (below_drew _)) ?_
  intro hne
  simp only [pick, List.map_cons, List.map_nil, List.getD_cons_zero, List.getD_cons_succ]
  refine wpMix_reads 4 _ (by kernel_rfl) ?_
  simp only [List.take_succ_cons, List.take_zero, List.drop_succ_cons, List.drop_zero]
  repeat (go_big_quiet_step (fail))
  refine wpQuiet_nil ?_
  refine wpMix_act rfl ?_ rfl
  go_wp2_with fail
  refine (scan_over (some ⟨g, 0, none⟩) bs _ cg base _ seed _ rfl (mine_front (M3.out.on (below_drew w4))) rfl (fun h => by cases h) (by omega) hcm (by omega) h2).mono ?_
  rintro e w5 ⟨t2, y2, hov, rfl, hb5⟩
  obtain ⟨rfl, rfl⟩ := OV.out.uniq hov
  have b5 := below_trans (below_drew w4) hb5
  have CX := Lib.hid (CC.out.on b5)
  have B5 := Lib.hid (below_trans B3.out b5)
  have M5 := Lib.hid (M3.out.on b5)
  have R5 := Lib.hid ((b5.block w.heap.size (heap_lt R3.out)).trans R3.out)
  have ROW5 := Lib.hid (ROW3.out.keep b5)
  have A5 := Lib.hid ((b5.block (w3.heap.size + 1) (heap_lt A3.out)).trans A3.out)
  have GL := Lib.hid (show g < w5.heap.size from Nat.lt_of_lt_of_le GL3.out (by have := heap_lt A5.out; omega))
  unfold scVal
  have hdif := scan_differ
  clear hov b5 hb5 M3 R3 ROW3 A3 B3
  go_wp2_with fail
  refine ⟨⟨⟨_, CX.out⟩, rfl⟩, ?_⟩
  refine wpMix_reads 1 _ (by kernel_rfl) ?_
  simp only [List.take_succ_cons, List.take_zero, List.drop_succ_cons, List.drop_zero]
  repeat (go_big_quiet_step (fail))
  refine wpQuiet_nil ?_
  refine wpMix_nil ?_
  clear hne g0 g1 g2 g3 g4 CC CX W3
  go_wp2_with fail
  refine (scan_records (some ⟨g, 0, none⟩) bs _ cg base _ most seed _ rfl (mine_front M5.out) rfl (fun h => by cases h) (by omega) h2).mono ?_
  rintro e w6 ⟨rv, rs, hrec, rfl, hrow, hb6⟩
  obtain ⟨ar, cr, rfl⟩ := row_slice hrow.row
  have RS := Lib.hid hrow
  have HREC := Lib.hid hrec
  have B6 := Lib.hid (below_trans B5.out hb6)
  have BL := Lib.hid hb6
  have A6 := (hb6.block (w3.heap.size + 1) (heap_lt A5.out)).trans A5.out
  have a0 := cell_of_row _ _ 0 _ _ _ A6
  obtain ⟨hle, hmx⟩ := told_len hrec (ends_of OV.out LEN.out)
  have lr : rs.length ≤ 131072 := by
    have := hrec.1.bound ⟨Nat.zero_le _, Nat.le_refl _, h0, h2⟩
    omega
  have ll : l.length ≤ 131072 := by
    have := TO.out.bound ⟨Nat.zero_le _, Nat.le_refl _, h0, h2⟩
    omega
  have a0 : w6.cell? ⟨w3.heap.size + 1, 0, none⟩ = some (.slice aa l.length ca) := a0
  obtain ⟨mn, E1⟩ : ∃ mn, (if (l.length : Int) < most then (l.length : Int) else most) = mn := ⟨_, rfl⟩
  rw [E1] at hmx
  clear hrec hrow hb6 A6 hdif
  have bk := below_trans (below_alloc w6 (.cells #[.slice none 0 0, .int .i64 0] 30)) (below_alloc (w6.alloc (.cells #[.slice none 0 0, .int .i64 0] 30)) (.cells #[.pointer (some ⟨w6.heap.size, 0, none⟩)] 27))
  have LB0 : LoopB (fun _ => False) w5 w6.heap.size (.slice ar rs.length cr) rs 0 (.slice none 0 0) 0 [] ((w6.alloc (.cells #[.slice none 0 0, .int .i64 0] 30)).alloc (.cells #[.pointer (some ⟨w6.heap.size, 0, none⟩)] 27)) := by
    have hk := heap_alloc_new (w6.alloc (.cells #[.slice none 0 0, .int .i64 0] 30)) (.cells #[.pointer (some ⟨w6.heap.size, 0, none⟩)] 27)
    rw [show (w6.alloc (.cells #[.slice none 0 0, .int .i64 0] 30)).heap.size = w6.heap.size + 1 by simp] at hk
    refine ⟨⟨((below_alloc (w6.alloc (.cells #[.slice none 0 0, .int .i64 0] 30)) _).block w6.heap.size (by simp)).trans (heap_alloc_new w6 _), BL.out.size, World.ownsRow_nil _ _ _ _, Nat.le_refl _, by omega, (fun x hx => nomatch hx), List.Pairwise.nil⟩, (fun x hx => nomatch hx), Off.of_below (below_trans BL.out bk), hk, RS.out.keep bk, (fun j p _ _ x hx => nomatch hx)⟩
  have LBH := Lib.hid LB0
  obtain ⟨wB, hwB⟩ : ∃ wB, (w6.alloc (.cells #[.slice none 0 0, .int .i64 0] 30)).alloc (.cells #[.pointer (some ⟨w6.heap.size, 0, none⟩)] 27) = wB := ⟨_, rfl⟩
  rw [hwB] at LBH
  have HWB := Lib.hid hwB
  have HLE := Lib.hid hle
  obtain ⟨kb, hkb⟩ : ∃ kb, w6.heap.size = kb := ⟨_, rfl⟩
  have HKB := Lib.hid hkb
  rw [hkb] at LBH
  clear LB0 bk hwB hle hkb
  go_wp2_with fail
  rw [HWB.out, HKB.out]
  clear HWB a0 E1 hmx
  go_loopw [17] (fun i wr => ∃ (k : Nat) (lv : Value) (z : Nat) (xs : List Value), k ≤ rs.length ∧ i = .int .i64 k ∧ Hid (LoopB (fun _ => False) w5 kb (.slice ar rs.length cr) rs k lv z xs wr)) (fun i _ => rs.length - (intOf i).toNat)
  case atStart => exact ⟨0, _, _, _, by omega, rfl, LBH⟩
  case round =>
    clear LBH
    obtain ⟨k, lv, z, xs, hk, rfl, hL⟩ := hrel
    by_cases hlt : k < rs.length
    · have HLT := Lib.hid hlt
      obtain ⟨p, hp⟩ : ∃ p, rs[k]? = some p := ⟨rs[k], List.getElem?_eq_getElem hlt⟩
      have hlt2 : k < l.length := by have := HLE.out; omega
      obtain ⟨q, hq⟩ : ∃ q, l[k]? = some q := ⟨l[k], List.getElem?_eq_getElem hlt2⟩
      obtain ⟨-, e1, e2⟩ := told_same HREC.out.1 TO.out hp hq
      have hsm := told_small HREC.out.1 hp
      have RK := ROW5.out.keep hL.out.below
      have hal := (hL.out.below.block (w3.heap.size + 1) (heap_lt A5.out)).trans A5.out
      have hk1 := cell_of_row _ _ 0 _ _ _ hL.out.kp
      obtain ⟨gr, cc, hv, -, -, hcell⟩ := row_at hL.out.row.row (by omega)
      injection hv with h1 _ h3
      subst h1 h3
      obtain ⟨f0, f1⟩ := flat2 rs k p hp
      obtain ⟨ga, cc, hv, -, -, hcell2⟩ := row_at RK.row (by omega)
      injection hv with h1 _ h3
      subst h1 h3
      obtain ⟨-, f3, f4⟩ := flat3 l k q hq
      have op := hL.out.row.own p (List.mem_of_getElem? hp)
      have oq := RK.own q (List.mem_of_getElem? hq)
      have HP := Lib.hid hp
      obtain ⟨off, x, v, d⟩ := p
      obtain ⟨off', x', v', d'⟩ := q
      dsimp only at e1 e2 f0 f1 f3 f4 op oq hsm
      subst e1 e2
      obtain ⟨ap, cp, rfl, xp, -, -, -, -⟩ := op.slice
      obtain ⟨aq, cq, rfl, xq, -, -, -, -⟩ := oq.slice
      have d0 := cell_regrown (hcell _ _ f0)
      have d1 := cell_regrown (hcell _ _ f1)
      have d3 := cell_regrown (hcell2 _ _ f3)
      have d4 := cell_regrown (hcell2 _ _ f4)
      have da := cell_regrown (show wr.cell? ⟨w3.heap.size + 1, 0, none⟩ = some (.slice (some ⟨ga, 0, none⟩) l.length ca) from cell_of_row _ _ 0 _ _ _ hal)
      have XP := Lib.hid xp
      have XQ := Lib.hid xq
      clear hp hq hal hk1 hcell hcell2 f0 f1 f3 f4 op oq xp xq RK
      go_wp2_with fail
      refine wp_region_quiet_below (by kernel_rfl) (by kernel_rfl) ?_
      repeat (go_big_quiet_step (first
        | (go_at_call 27; exact Calls.regrown_of (rec_same x ap aq d _ cp cq _ (XP.out.below (below_regrown _ _ _)) (XQ.out.below (below_regrown _ _ _)) rfl (by omega)))))
      refine wpQuiet_nil ?_
      intro w7 hw7
      obtain ⟨⟨nq, osq⟩, hw7'⟩ := hw7
      have b7 : Below wr.heap.size wr w7 := by rw [hw7']; exact below_regrown _ _ _
      have L7 := Lib.hid (hL.out.keep b7)
      clear hw7' b7 d0 d1 d3 d4 da XP XQ
      obtain ⟨gr', cc, hv, -, -, hcell⟩ := row_at L7.out.row.row (by omega)
      injection hv with h1 _ h3
      injection h1 with h1
      injection h1 with h1
      subst h1
      have dk : w7.cell? ⟨kb + 1, 0, none⟩ = some (.pointer (some ⟨kb, 0, none⟩)) := cell_of_row _ _ 0 _ _ _ L7.out.kp
      have dv : w7.cell? ⟨gr, k * 2 + 1, none⟩ = some (.slice ap d.length cp) := hcell _ _ (flat2 rs k _ HP.out).2
      have CC := Lib.hid (show (CellsW [(⟨kb + 1, 0, none⟩, .pointer (some ⟨kb, 0, none⟩)), (⟨gr, k * 2 + 1, none⟩, .slice ap d.length cp)]) w7 from fun q hq => by
        simp only [List.mem_cons, List.not_mem_nil, or_false] at hq
        rcases hq with rfl | rfl
        · exact dk
        · exact dv)
      have g0 : ∀ p : In (CellsW [(⟨kb + 1, 0, none⟩, .pointer (some ⟨kb, 0, none⟩)), (⟨gr, k * 2 + 1, none⟩, .slice ap d.length cp)]), p.w.cell? ⟨kb + 1, 0, none⟩ = some (.pointer (some ⟨kb, 0, none⟩)) := fun p => p.h.get 0 rfl
      have g1 : ∀ p : In (CellsW [(⟨kb + 1, 0, none⟩, .pointer (some ⟨kb, 0, none⟩)), (⟨gr, k * 2 + 1, none⟩, .slice ap d.length cp)]), p.w.cell? ⟨gr, k * 2 + 1, none⟩ = some (.slice ap d.length cp) := fun p => p.h.get 1 rfl
      have bA : Below w7.heap.size w7 (w7.drew.alloc (.cells #[.slice ap d.length cp] 31 (0, 0))) := below_trans (below_drew _) (below_alloc _ _)
      have L8 := Lib.hid (L7.out.keep bA)
      have C8 := Lib.hid (CC.out.on bA)
      have CO := Lib.hid (come_one (xs := xs) (lo := w5.heap.size) (cell_of_row _ _ 0 _ _ _ (heap_alloc_new w7.drew (.cells #[.slice ap d.length cp] 31 (0, 0)))) (L8.out.row.own _ (List.mem_of_getElem? HP.out)) (by dsimp only; omega) (L8.out.new k _ (Nat.le_refl _) HP.out))
      have N1 := Lib.hid (show kb ≠ w7.heap.size from Nat.ne_of_lt (heap_lt L7.out.kept.box))
      have N2 := Lib.hid (show lv.ownBlock ≠ some w7.heap.size from fun e => by obtain ⟨_, _, hc⟩ := rows_blk L7.out.kept.list e; exact Nat.lt_irrefl _ (heap_lt hc))
      have N3 := Lib.hid (show w5.heap.size ≤ (w7.drew.alloc (.cells #[.slice ap d.length cp] 31 (0, 0))).heap.size from L8.out.below.size)
      clear hcell dk dv bA h3
      go_wp2_with fail
      refine wp_region_mixed [0, 1, 2, 3, 4, 5, 6, 7] (CellsW [(⟨kb + 1, 0, none⟩, .pointer (some ⟨kb, 0, none⟩)), (⟨gr, k * 2 + 1, none⟩, .slice ap d.length cp)]) (by kernel_rfl) (by kernel_rfl) (by intro c a d v w h; cases d <;> exact h) (CC.out.on (below_drew _)) ?_
      intro hne
      simp only [pick, List.map_cons, List.map_nil, List.getD_cons_zero, List.getD_cons_succ]
      refine wpMix_reads 6 _ (by kernel_rfl) ?_
      simp only [List.take_succ_cons, List.take_zero, List.drop_succ_cons, List.drop_zero]
      repeat (go_big_quiet_step (fail))
      refine wpQuiet_nil ?_
      refine wpMix_act rfl ?_ rfl
      go_wp2_with fail
      refine ⟨⟨⟨_, C8.out⟩, rfl⟩, ?_⟩
      refine wpMix_act rfl ?_ rfl
      go_wp2_with fail
      refine (keep_x kb w5.heap.size w7.heap.size 1 lv z xs [.slice ap d.length cp] _ L8.out.kept CO.out N1.out N2.out (by simp) N3.out L8.out.short).mono ?_
      rintro e w9 ⟨rfl, lv', z', xs', hK, hB, -, hF, hS, hM, -⟩
      have L9 := Lib.hid (L8.out.next HP.out hK hB hF hS hM)
      obtain ⟨gr', cc, hv, -, -, hcell⟩ := row_at L9.out.row.row (by omega)
      injection hv with h1 _ h3
      injection h1 with h1
      injection h1 with h1
      subst h1
      have C9 := Lib.hid (show (CellsW [(⟨kb + 1, 0, none⟩, .pointer (some ⟨kb, 0, none⟩)), (⟨gr, k * 2 + 1, none⟩, .slice ap d.length cp)]) w9 from fun q hq => by
        simp only [List.mem_cons, List.not_mem_nil, or_false] at hq
        rcases hq with rfl | rfl
        · exact cell_of_row _ _ 0 _ _ _ L9.out.kp
        · exact hcell _ _ (flat2 rs k _ HP.out).2)
      clear hK hB hF hS hM hcell h3
      go_wp2_with fail
      refine ⟨⟨⟨_, C9.out⟩, rfl⟩, ?_⟩
      refine wpMix_nil ?_
      clear hne g0 g1
      go_wp2_with fail
      go_roundw
      case rel => exact ⟨k + 1, lv', z', xs', by have := HLT.out; omega, by go_num, L9⟩
      case measure => simp [intOf]; have := HLT.out; omega
    · have hge : (rs.length : Int) ≤ (k : Int) := by omega
      have LB0 := Lib.hid hL.out.drop
      clear hL RS HLE HREC lr
      go_wp2_with fail
      go_loopw [18, 19, 20, 21, 22, 23, 24] (fun i _ _ _ _ _ _ wr => ∃ (k : Nat) (lv : Value) (z : Nat) (xs : List Value), k ≤ L.length ∧ i = .int .i64 k ∧ Hid (LoopB (fun _ => False) w5 kb (.slice none 0 0) [] 0 lv z xs wr)) (fun i _ _ _ _ _ _ _ => L.length - (intOf i).toNat)
      case atStart => exact ⟨0, lv, z, xs, by omega, rfl, LB0⟩
      case round =>
        clear LB0
        obtain ⟨k, lv, z, xs, hk, rfl, hL⟩ := hrel
        by_cases hlt : k < L.length ∧ k < 10
        · obtain ⟨hlt, hlt2⟩ := hlt
          have t1 : (k : Int) < (L.length : Int) := by omega
          have t2 : (k : Int) < 10 := by omega
          have HLT := Lib.hid hlt
          have BWr := Lib.hid (below_trans B5.out hL.out.below)
          have NW := Lib.hid (show w5.heap.size ≤ wr.heap.size from hL.out.below.size)
          obtain ⟨-, b, off, rfl, hcl⟩ := (HLS.out.below BWr.out) k hlt
          obtain ⟨y1, hy1⟩ : ∃ y1, atI L k = y1 := ⟨_, rfl⟩
          rw [hy1] at hcl
          have MW := Lib.hid (M5.out.on hL.out.below)
          clear hlt hlt2 hy1
          go_wp2_with fail
          refine (scan_find (some ⟨g, 0, none⟩) bs _ cg base _ y1 seed _ rfl (mine_front MW.out) rfl (fun h => by cases h) (by omega) h2).mono ?_
          rintro e w7 ⟨x, v, d, at_, er, hfi, rfl, hO, hb7⟩
          obtain ⟨ap, cp, rfl, -, -, -, -, -⟩ := hO.slice
          have FI := Lib.hid hfi
          have bx := below_alloc w7 (.cells #[.int .i64 x, .slice ap d.length cp] 34)
          have b7 := below_trans hb7 bx
          have Q7 := rec_new w7 x (.slice ap d.length cp)
          have O7 := Lib.hid (show OwnB (w7.alloc (.cells #[.int .i64 x, .slice ap d.length cp] 34)) wr.heap.size (.slice ap d.length cp) d from hO.keep bx)
          have L7 := Lib.hid (hL.out.keep b7)
          have FR := Lib.hid (hL.out.fresh hO (Nat.le_refl _))
          have hc7 := cell_keep b7 hcl
          have BW7 := Lib.hid (below_trans BWr.out b7)
          have QH := Lib.hid Q7
          have WL := Lib.hid (show wr.heap.size ≤ (w7.alloc (.cells #[.int .i64 x, .slice ap d.length cp] 34)).heap.size from b7.size)
          clear hfi bx hb7 hO b7 Q7 hL hcl MW
          go_wp2_with fail
          refine (ref_find ao bs _ cap base _ y1 seed _ rfl (HB.out.below BW7.out) rfl HZ.out hc (by omega) (by omega) h0 h2).mono ?_
          rintro e w8 ⟨x', v', d', at', er', hfi, rfl, hO, hb8⟩
          obtain ⟨rfl, rfl, rfl, rfl⟩ := FI.out.uniq hfi
          obtain ⟨aq, cq, rfl, -, -, -, -, -⟩ := hO.slice
          have bx := below_alloc w8 (.cells #[.int .i64 x, .slice aq d.length cq] 34)
          have b8 := below_trans hb8 bx
          have QQ := rec_new w8 x (.slice aq d.length cq)
          have Q8 := Lib.hid (QH.out.on b8)
          have O8 := Lib.hid (O7.out.keep b8)
          have P8 := Lib.hid (show OwnB (w8.alloc (.cells #[.int .i64 x, .slice aq d.length cq] 34)) w.heap.size (.slice aq d.length cq) d from (hO.keep bx).base (BW7.out.size))
          have L8 := Lib.hid (L7.out.keep b8)
          have W8 := Lib.hid (Nat.le_trans WL.out b8.size)
          have q0 := Q8.out.c0
          have q1 := Q8.out.c1
          have r0 := QQ.c0
          have r1 := QQ.c1
          have hds : d.length ≤ 4096 ∨ d = [] := by
            rcases FI.out with ⟨i, _, hg, _, _, hd, _, _⟩ | ⟨_, _, _, _, hd, _, _⟩
            · obtain ⟨_, _, r3, _⟩ := rF_ok (hg i (Nat.le_refl _)).2.1
              exact .inl (by rw [hd]; exact r3)
            · exact .inr hd
          have hd4 : d.length ≤ 4096 := by
            rcases hds with h | rfl
            · exact h
            · simp
          clear hfi bx hb8 hO b8 QQ L7 O7 QH FI BW7 hc7 WL hds
          go_wp2_with fail
          refine (rec_same x ap aq d _ cp cq _ (own_at O8.out) (own_at P8.out) rfl (by omega)).mono ?_
          rintro e w10 ⟨rfl, hb10⟩
          have LA := Lib.hid (L8.out.keep hb10)
          have QA := Lib.hid (Q8.out.on hb10)
          have OA := Lib.hid (O8.out.keep hb10)
          have q0 := QA.out.c0
          have q1 := QA.out.c1
          have hk1 := cell_of_row _ _ 0 _ _ _ LA.out.kp
          have hk1 : w10.cell? ⟨kb + 1, 0, none⟩ = some (.pointer (some ⟨kb, 0, none⟩)) := hk1
          have bA : Below w10.heap.size w10 (w10.alloc (.cells #[.slice ap d.length cp] 31 (0, 0))) := below_alloc _ _
          have LC := Lib.hid (LA.out.keep bA)
          have N0 : w5.heap.size ≤ wr.heap.size := NW.out
          have CO := Lib.hid (come_one (xs := xs) (lo := w5.heap.size) (cell_of_row _ _ 0 _ _ _ (heap_alloc_new w10 (.cells #[.slice ap d.length cp] 31 (0, 0)))) ((OA.out.keep bA).base N0) (by omega) FR.out)
          have N1 := Lib.hid (show kb ≠ w10.heap.size from Nat.ne_of_lt (heap_lt LA.out.kept.box))
          have N2 := Lib.hid (show lv.ownBlock ≠ some w10.heap.size from fun e => by obtain ⟨_, _, hc⟩ := rows_blk LA.out.kept.list e; exact Nat.lt_irrefl _ (heap_lt hc))
          have N3 := Lib.hid (show w5.heap.size ≤ (w10.alloc (.cells #[.slice ap d.length cp] 31 (0, 0))).heap.size from LC.out.below.size)
          clear hb10 bA N0 Q8 O8 P8 L8
          go_wp2_with fail
          refine (keep_x kb w5.heap.size w10.heap.size 1 lv z xs [.slice ap d.length cp] _ LC.out.kept CO.out N1.out N2.out (by simp) N3.out LC.out.short).mono ?_
          rintro e w11 ⟨rfl, lv', z', xs', hK, hB, -, hF, hS, -, -⟩
          have LD := Lib.hid (LC.out.again hK hB hF hS)
          clear hK hB hF hS q0 q1 hk1
          go_wp2_with fail
          go_roundw
          case rel => exact ⟨k + 1, lv', z', xs', by have := HLT.out; omega, by go_num, LD⟩
          case measure => simp [intOf]; have := HLT.out; omega
        · -- the third loop's end
          rcases (show ¬ k < L.length ∨ (k < L.length ∧ ¬ k < 10) from by omega) with hx | ⟨hx, hx'⟩
          · have t1 : ¬ (k : Int) < (L.length : Int) := by omega
            clear hx hlt
            have HLL := Lib.hid hL
            clear hL
            go_wp2_with fail
            refine (scan_each (some ⟨g, 0, none⟩) bs _ cg base _ seed _ rfl (mine_front (M5.out.on HLL.out.below)) rfl (fun h => by cases h) (by omega)).mono ?_
            rintro e w7 ⟨bN, bS, bO, ao', cap', rfl, hE, hb7⟩
            have L7 := Lib.hid (HLL.out.keep hb7)
            have EE := Lib.hid hE
            have M7 := Lib.hid (M5.out.on L7.out.below)
            have EBN := Lib.hid (show bN < w7.heap.size ∧ bS < w7.heap.size ∧ bO < w7.heap.size from ⟨block_lt_of_cell hE.cN, block_lt_of_cell hE.cS, block_lt_of_cell hE.cO⟩)
            have EB := Lib.hid (show ∀ g' o', ao' = some ⟨g', o', none⟩ → 0 < bs.length → g' < w7.heap.size from fun g' o' e' h => by
              obtain ⟨g2, o2, e2, hc2⟩ := hE.bytes 0 h
              rw [e'] at e2
              injection e2 with e2
              injection e2 with e2 _
              subst e2
              exact block_lt_of_cell hc2)
            have BW7 := Lib.hid (below_trans B5.out L7.out.below)
            have N7 := Lib.hid (show w5.heap.size ≤ wr.heap.size ∧ wr.heap.size ≤ w7.heap.size from ⟨HLL.out.below.size, hb7.size⟩)
            have CL7 := Lib.hid (show Clear (fun j => wr.heap.size ≤ j) lv xs from HLL.out.old)
            have KB7 := Lib.hid (show kb + 1 < wr.heap.size from heap_lt HLL.out.kp)
            have hnil := eql_nilFunc
            unfold eachFn
            clear hE hb7 HLL
            go_wp2_with fail
            refine (back_but w1 g cg ao bs cap _ M7.out hcg hcm (fun w' hw' => (HB.out.below B1.out).but M7.out.below hw' M7.out.own)).mono ?_
            rintro e w8 ⟨rfl, hbu⟩
            have L8 := Lib.hid (L7.out.but hbu GL.out)
            have E8 := Lib.hid (EE.out.but hbu (show g < wr.heap.size by have := GL.out; have := N7.out; omega))
            have BW8 := Lib.hid (hbu.below BW7.out (Nat.le_of_lt GW.out) BW7.out.size)
            have S8 := Lib.hid (show w7.heap.size ≤ w8.heap.size from hbu.size)
            have n1 : Hid (∀ k, k < wr.heap.size → k ≠ g → w8.heap[k]? = w7.heap[k]?) := Lib.hid fun k hk hg => hbu.block k (by have := N7.out; omega) hg
            clear hbu L7 EE M7 BW7 hnil n1
            go_wp2_with fail
            refine wp_loop_rounds 3 ?_
            rw [rounds_succ]
            have D0B : Hid True := Lib.hid trivial
            obtain ⟨NB, hNB⟩ : ∃ NB, wr.heap.size = NB := ⟨_, rfl⟩
            obtain ⟨n1, hn1⟩ : ∃ n1, w7.heap.size = n1 := ⟨_, rfl⟩
            rw [hNB] at E8 KB7 CL7 N7
            rw [hn1] at N7 S8 EB EBN
            have LT := Lib.hid (L8.out.keep (below_alloc w8 (.cells #[.int .i64 0] 3)))
            have ET := Lib.hid (E8.out.on (below_alloc w8 (.cells #[.int .i64 0] 3)))
            have TB := Lib.hid (heap_alloc_new w8 (.cells #[.int .i64 0] 3))
            have BT := Lib.hid (below_trans BW8.out (below_alloc w8 (.cells #[.int .i64 0] 3)))
            have CLT : Hid (Clear (fun j => NB ≤ j ∧ j < n1) lv xs) := Lib.hid ⟨fun q hq h => CL7.out.1 q hq h.1, fun x hx q hq h => CL7.out.2 x hx q hq h.1⟩
            have sz8 : (w8.alloc (.cells #[.int .i64 0] 3)).heap.size = w8.heap.size + 1 := by show (w8.heap.push _).size = _; rw [Array.size_push]
            obtain ⟨wT, hwT⟩ : ∃ wT, w8.alloc (.cells #[.int .i64 0] 3) = wT := ⟨_, rfl⟩
            obtain ⟨bt, hbt⟩ : ∃ bt, w8.heap.size = bt := ⟨_, rfl⟩
            rw [hwT] at LT ET TB BT sz8
            rw [hbt] at TB sz8 S8
            rw [hwT, hbt]
            have BND := Lib.hid (show n1 ≤ bt ∧ w5.heap.size ≤ NB ∧ NB ≤ n1 ∧ bt < wT.heap.size from ⟨S8.out, N7.out.1, N7.out.2, by omega⟩)
            clear L8 E8 BW8 CL7 hNB hn1 hwT hbt sz8 S8 N7
            obtain ⟨wS, hwS⟩ : ∃ wS, wT.alloc (.cells #[.int .i64 0] 3) = wS := ⟨_, rfl⟩
            have bS := below_alloc wT (.cells #[.int .i64 0] 3)
            have hnS := heap_alloc_new wT (.cells #[.int .i64 0] 3)
            have szS : (wT.alloc (.cells #[.int .i64 0] 3)).heap.size = wT.heap.size + 1 := by show (wT.heap.push _).size = _; rw [Array.size_push]
            rw [hwS] at bS hnS szS
            obtain ⟨bi, hbi⟩ : ∃ bi, wT.heap.size = bi := ⟨_, rfl⟩
            rw [hbi] at hnS szS
            have HWS := Lib.hid hwS
            have HBI := Lib.hid hbi
            have LS := Lib.hid (LT.out.keep bS)
            have ES := Lib.hid (ET.out.on bS)
            have IS := Lib.hid hnS
            have TS := Lib.hid ((bS.block _ (heap_lt TB.out)).trans TB.out)
            have BS := Lib.hid (below_trans BT.out bS)
            have BTW := Lib.hid bS
            have SS := Lib.hid szS
            have t0 := cell_of_row _ _ 0 _ _ _ TB.out
            clear hwS hbi bS hnS szS
            go_wp2_with fail
            rw [HWS.out, HBI.out]
            clear HWS t0
            refine wpIn_wide.1 (range_in (n := 8) rfl (enters_of Try.func75 (by kernel_rfl) rfl) fun fn lo hlo => ?_)
            obtain ⟨q1, q2, q3, q4⟩ := loopW_at wS lo
            simp only [List.append_toArray, List.cons_append, List.nil_append]
            have hTB : bi ≠ bt ∧ bt < bi := by have := heap_lt TB.out; have := HBI.out; omega
            obtain ⟨PP, hPP⟩ : ∃ PP : Nat → Prop, PP = fun k => (NB ≤ k ∧ k < n1) ∨ (wS.heap.size ≤ k ∧ k < wS.heap.size + 9) := ⟨_, rfl⟩
            have PPI : ∀ k, PP k ↔ (NB ≤ k ∧ k < n1) ∨ (wS.heap.size ≤ k ∧ k < wS.heap.size + 9) := fun k => by rw [hPP]
            have HPI := Lib.hid PPI
            have p1 : ¬ PP kb := fun h => by have := (PPI kb).1 h; have := KB7.out; have := SS.out; have := HBI.out; have := heap_lt TB.out; have := BND.out; have := D0B.out; omega
            have p2 : ¬ PP (kb + 1) := fun h => by have := (PPI (kb + 1)).1 h; have := KB7.out; have := SS.out; have := HBI.out; have := heap_lt TB.out; have := BND.out; have := D0B.out; omega
            have p3 : ¬ PP bi := fun h => by have := (PPI bi).1 h; have := SS.out; have := HBI.out; have := heap_lt TB.out; have := BND.out; have := D0B.out; omega
            have p4 : ¬ PP bt := fun h => by have := (PPI bt).1 h; have := SS.out; have := HBI.out; have := heap_lt TB.out; have := BND.out; have := D0B.out; omega
            have p5 : ∀ k, k < w5.heap.size → ¬ PP k := fun k hk h => by have := (PPI k).1 h; have := SS.out; have := HBI.out; have := heap_lt TB.out; have := BND.out; have := D0B.out; omega
            obtain ⟨PM, hPM⟩ : ∃ PM : Nat → Prop, PM = fun k => wS.heap.size ≤ k ∧ k < wS.heap.size + 9 := ⟨_, rfl⟩
            have HMI : Hid (∀ k, PM k ↔ wS.heap.size ≤ k ∧ k < wS.heap.size + 9) := Lib.hid fun k => by rw [hPM]
            have AP := Lib.hid (show Apt w5 kb bi bt (fun k => NB ≤ k ∧ k < n1) PP PM from ⟨p1, p2, p3, p4, p5, fun k h => (PPI k).2 (.inr ((HMI.out k).1 h)), (fun k h => (PPI k).2 (.inl h)), (fun k h h' => by have := (HMI.out k).1 h'; have := SS.out; have := HBI.out; have := BND.out; have := D0B.out; omega)⟩)
            clear hPM
            have CLS : Clear PP lv xs := ⟨fun q hq h => by
              have h1 := CLT.out.1 q hq
              have h2 := LT.out.old.1 q hq
              have := (PPI q).1 h
              have := D0B.out
              have := BND.out
              have := SS.out
              have := HBI.out
              omega, fun x hx q hq h => by
              have h1 := CLT.out.2 x hx q hq
              have h2 := LT.out.old.2 x hx q hq
              have := (PPI q).1 h
              have := D0B.out
              have := BND.out
              have := SS.out
              have := HBI.out
              omega⟩
            have BTS := Lib.hid (show Below wT.heap.size wT (loopW wS lo) from below_trans BTW.out q3)
            have START : Hid (TurnI g w5 kb bi bt 0 wT (fun k => NB ≤ k ∧ k < n1) PP 0 (loopW wS lo)) := Lib.hid ⟨lv, z, xs, LS.out.keep q3, CLS, (q3.block bi (by have := SS.out; omega)).trans IS.out, (q3.block bt (heap_lt TS.out)).trans TS.out, (fun k h => ⟨Nat.lt_of_lt_of_le (show k < wT.heap.size by have := BND.out; have := D0B.out; omega) BTS.out.size, BTS.out.block k (by have := BND.out; have := D0B.out; omega)⟩)⟩
            have HROW : Hid (∀ W : World, Off (fun j => j = g) w5 W → RowAt 64 3 cells3 W w2.heap.size (.slice aa l.length ca) l ∧ W.heap[w3.heap.size + 1]? = some (.cells #[.slice aa l.length ca] 58 (0, 0))) := Lib.hid fun W h => ⟨ROW5.out.off fun g' h1 h2 => h.block g' h2 (by have := GL2.out; omega), (h.block _ (heap_lt A5.out) (by have := GL3.out; omega)).trans A5.out⟩
            have LBI := Lib.hid (show w5.heap.size ≤ bi ∧ bi < wS.heap.size ∧ n1 ≤ bi from by have := SS.out; have := HBI.out; have := heap_lt TB.out; have := BND.out; have := D0B.out; omega)
            clear CLS p1 p2 p3 p4 p5 hPP PPI
            have HRound : Hid (∀ (i : Nat) (off x : Int) (vq : Value) (d : List (BitVec 8)) (aq : Option Addr) (cq : Nat) (W0 W1 : World), l[i]? = some ⟨off, x, vq, d⟩ → TurnI g w5 kb bi bt 0 wT (fun k => NB ≤ k ∧ k < n1) PP i W0 → Off PM W0 W1 → (0 = (0 : Int) → i < 3) → wS.heap.size + 9 ≤ W0.heap.size → OwnB W1 W0.heap.size (.slice aq d.length cq) d →
                W1.heap[wS.heap.size + 1]? = some (.loop lo) → W1.heap[wS.heap.size]? = some (.deferred (some [])) →
                YieldAt Fence.wide 5 Try.prog (wS.heap.size + 1) #[.int .i64 off, .agg #[.int .i64 x, .slice aq d.length cq]] W1 fun e W2 => ∃ W5 o, RdTo g w5 kb bi bt 0 wT (fun k => NB ≤ k ∧ k < n1) PP (wS.heap.size + 1) i W1 W5 ∧ W2 = W5.putObj (wS.heap.size + 1) (.loop o) ∧ W2.heap[wS.heap.size + 1]? = some (.loop o) ∧ W2.heap[wS.heap.size]? = some (.deferred (some [])) ∧
                  ((e = .returned (.bool true) ∧ (0 = (0 : Int) → i + 1 ≠ 3) ∧ o = lo) ∨ (e = .returned (.bool false) ∧ 0 = (0 : Int) ∧ i + 1 = 3 ∧ o = lst lo .done (some (.exit 6))))) := Lib.hid (by
              intro i off x vq d aq cq W0 W1 hq hT hu hT3 hsz hO J2 J3
              have l1 := (Array.getElem?_eq_some_iff.1 J2).1
              have l2 := (Array.getElem?_eq_some_iff.1 J3).1
              have HQ := Lib.hid hq
              have HTI := Lib.hid hT
              have HU := Lib.hid hu
              have HO := Lib.hid hO
              have HT3 := Lib.hid hT3
              have HSZ := Lib.hid (show wS.heap.size + 9 ≤ W0.heap.size ∧ W0.heap.size ≤ W1.heap.size from ⟨hsz, hu.size⟩)
              have hil : i < l.length := (List.getElem?_eq_some_iff.1 hq).1
              have hdl : d.length ≤ 4096 := told_small TO.out hq
              clear hq hT hO hT3 hsz hu
              refine YieldAt.mono (round_in hlo trivial J2 J3 (by omega) rfl
                (RdN 0 i (RdTo g w5 kb bi bt 0 wT (fun k => NB ≤ k ∧ k < n1) PP (wS.heap.size + 1) i W1))
                (RdX 0 i (RdTo g w5 kb bi bt 0 wT (fun k => NB ≤ k ∧ k < n1) PP (wS.heap.size + 1) i W1)) ?_) ?_
              · have K2 := Lib.hid J2
                have K3 := Lib.hid J3
                clear l1 l2 J2 J3
                gi_wp2
                have J2 := K2.out
                have J3 := K3.out
                have l1 := (Array.getElem?_eq_some_iff.1 J2).1
                have l2 := (Array.getElem?_eq_some_iff.1 J3).1
                obtain ⟨p1, p2, p3, p4⟩ := round_box W1 #[.int .i64 x, .slice aq d.length cq] 34 (wS.heap.size + 1) (.loop (lst lo .busy none)) (by omega)
                refine ⟨p4, (below_alloc W1 _).block wS.heap.size (by omega), ?_⟩
                obtain ⟨W4, hW4⟩ : ∃ W4, (W1.alloc (.cells #[.int .i64 x, .slice aq d.length cq] 34)).putObj (wS.heap.size + 1) (.loop (lst lo .busy none)) = W4 := ⟨_, rfl⟩
                rw [hW4]
                rw [hW4] at p1 p2 p3
                have hLLP : PM (wS.heap.size + 1) := (HMI.out _).2 ⟨by omega, by omega⟩
                have ho14 : Off PM W0 W4 := HU.out.trans (Off.of_but p2 hLLP)
                obtain ⟨lv, z, xs, hL0, hC0, hi0, ht0, hd0⟩ := HTI.out
                have FR := Lib.hid (hL0.fresh HO.out (Nat.le_refl _))
                have hL4 := hL0.move (Q := PM) ⟨fun q hq h => hC0.1 q hq (AP.out.sub q h), fun x hx q hq h => hC0.2 x hx q hq (AP.out.sub q h)⟩ ho14 (fun h => AP.out.k0 (AP.out.sub _ h)) (fun h => AP.out.k1 (AP.out.sub _ h)) (fun j hj hp => (AP.out.low j hj (AP.out.sub _ hp)).elim)
                have hi4 := (ho14.block _ (heap_lt hi0) (fun h => AP.out.i (AP.out.sub _ h))).trans hi0
                have ht4 := (ho14.block _ (heap_lt ht0) (fun h => AP.out.t (AP.out.sub _ h))).trans ht0
                have hd4 : ∀ k : Nat, (fun k => NB ≤ k ∧ k < n1) k → k < W4.heap.size ∧ W4.heap[k]? = wT.heap[k]? := fun k hk => ⟨Nat.lt_of_lt_of_le (hd0 k hk).1 ho14.size, (ho14.block _ (hd0 k hk).1 (AP.out.dM k hk)).trans (hd0 k hk).2⟩
                obtain ⟨RK, hal⟩ := HROW.out W4 hL4.off
                obtain ⟨ga, cc, hv, -, -, hcell⟩ := row_at RK.row (by omega)
                injection hv with h1 _ h3
                subst h1 h3
                obtain ⟨f2, f3, f4⟩ := flat3 l i _ HQ.out
                have oq := RK.own _ (List.mem_of_getElem? HQ.out)
                dsimp only at f2 f3 f4 oq
                obtain ⟨ap, cp, rfl, xq, -, -, -, -⟩ := oq.slice
                have O4 : OwnB W4 W0.heap.size (.slice aq d.length cq) d := own_off HO.out (w' := W4) (fun g' g1 g2 => p2.block g' g2 (by have := HSZ.out; omega))
                have c0 : W4.cell? ⟨W1.heap.size, 0, none⟩ = some (.int .i64 x) := cell_of_row _ _ 0 _ _ _ p1
                have c1 : W4.cell? ⟨W1.heap.size, 1, none⟩ = some (.slice aq d.length cq) := cell_of_row _ _ 1 _ _ _ p1
                have v0 := cell_regrown c0
                have v1 := cell_regrown c1
                have v2 := cell_regrown (hcell _ _ f2)
                have v3 := cell_regrown (hcell _ _ f3)
                have v4 := cell_regrown (hcell _ _ f4)
                have v5 := cell_regrown (show W4.cell? ⟨w3.heap.size + 1, 0, none⟩ = some (.slice (some ⟨ga, 0, none⟩) l.length ca) from cell_of_row _ _ 0 _ _ _ hal)
                have v6 := cell_regrown (show W4.cell? ⟨bi, 0, none⟩ = some (.int .i64 i) from cell_of_row _ _ 0 _ _ _ hi4)
                have t1 : ¬ (l.length : Int) ≤ (i : Int) := by omega
                have XO := Lib.hid (own_at O4)
                have XQ := Lib.hid xq
                have OO := Lib.hid O4
                have L4 := Lib.hid hL4
                have C4 := Lib.hid hC0
                have I4 := Lib.hid hi4
                have T4 := Lib.hid ht4
                have D4 := Lib.hid hd4
                have Q4 := Lib.hid p1
                have B4 := Lib.hid p2
                have P3 := Lib.hid p3
                have J3' := Lib.hid (show W4.heap[wS.heap.size]? = some (.deferred (some [])) from (p2.block _ l2 (by omega)).trans J3)
                clear p1 p2 p3 p4 hW4 hLLP ho14 hL0 hC0 hi0 ht0 hd0 hL4 hi4 ht4 hd4 RK hal hcell f2 f3 f4 oq xq O4 c0 c1 J2 J3 l1 l2
                gi_wp2
                have t1 : ¬ (l.length : Int) ≤ (i : Int) := by omega
                have t2 : decide ((l.length : Int) ≤ (i : Int)) = false := decide_eq_false t1
                refine wpIn_round_quiet (by kernel_rfl) (by kernel_rfl) (by kernel_rfl) ?_
                repeat (go_big_quiet_step (first
                  | (go_at_call 27; exact Calls.regrown_of (rec_same x aq ap d _ cq cp _ (XO.out.below (below_regrown _ _ _)) (XQ.out.below (below_regrown _ _ _)) rfl (by omega)))))
                refine wpQuiet_nil ?_
                intro W5 hW5
                obtain ⟨⟨nq, osq⟩, hW5'⟩ := hW5
                have b5 : Below W4.heap.size W4 W5 := by rw [hW5']; exact below_regrown _ _ _
                clear hW5' v0 v1 v2 v3 v4 v5 v6 XO XQ
                have bA : Below W5.heap.size W5 (W5.alloc (.cells #[.slice aq d.length cq] 31 (0, 0))) := below_alloc _ _
                have b5A := Lib.hid (below_trans b5 bA)
                have L5 := Lib.hid (L4.out.keep b5)
                have LA := Lib.hid (L4.out.keep b5A.out)
                have IA := Lib.hid ((b5A.out.block bi (heap_lt I4.out)).trans I4.out)
                have TA := Lib.hid ((b5A.out.block bt (heap_lt T4.out)).trans T4.out)
                have DA : Hid (∀ k : Nat, (fun k => NB ≤ k ∧ k < n1) k → k < (W5.alloc (.cells #[.slice aq d.length cq] 31 (0, 0))).heap.size ∧ (W5.alloc (.cells #[.slice aq d.length cq] 31 (0, 0))).heap[k]? = wT.heap[k]?) := Lib.hid fun k hk => ⟨Nat.lt_of_lt_of_le (D4.out k hk).1 b5A.out.size, (b5A.out.block k (D4.out k hk).1).trans (D4.out k hk).2⟩
                have OA := Lib.hid (OO.out.keep b5A.out)
                have PA := Lib.hid ((b5A.out.block _ (heap_lt P3.out)).trans P3.out)
                have JA := Lib.hid ((b5A.out.block _ (heap_lt J3'.out)).trans J3'.out)
                have hq5 := (b5.block W1.heap.size (heap_lt Q4.out)).trans Q4.out
                have c1 : W5.cell? ⟨W1.heap.size, 1, none⟩ = some (.slice aq d.length cq) := cell_of_row _ _ 1 _ _ _ hq5
                have hk1 : W5.cell? ⟨kb + 1, 0, none⟩ = some (.pointer (some ⟨kb, 0, none⟩)) := cell_of_row _ _ 0 _ _ _ L5.out.kp
                have CO := Lib.hid (come_one (xs := xs) (lo := w5.heap.size) (cell_of_row _ _ 0 _ _ _ (heap_alloc_new W5 (.cells #[.slice aq d.length cq] 31 (0, 0)))) (OA.out.base (show w5.heap.size ≤ W0.heap.size by have := LBI.out; have := HSZ.out; omega)) (by omega) FR.out)
                have N1 := Lib.hid (show kb ≠ W5.heap.size from Nat.ne_of_lt (heap_lt L5.out.kept.box))
                have N2 := Lib.hid (show lv.ownBlock ≠ some W5.heap.size from fun e => by obtain ⟨_, _, hc⟩ := rows_blk L5.out.kept.list e; exact Nat.lt_irrefl _ (heap_lt hc))
                have N3 := Lib.hid (show w5.heap.size ≤ (W5.alloc (.cells #[.slice aq d.length cq] 31 (0, 0))).heap.size from Nat.le_trans LA.out.off.size (Nat.le_refl _))
                have hP' : Hid (∀ k, PP k → k < W1.heap.size ∧ k < W0.heap.size) := Lib.hid fun k hk => by
                  have := (HPI.out k).1 hk
                  have := D0B.out
                  have := LBI.out
                  have := HSZ.out
                  omega
                clear b5 bA hq5
                gi_wp2
                refine ⟨trivial, (in_round (keep_x kb w5.heap.size W5.heap.size 1 lv z xs [.slice aq d.length cq] _ LA.out.kept CO.out N1.out N2.out (by simp) N3.out LA.out.short)).mono ?_⟩
                rintro e W6 ⟨rfl, lv', z', xs', hK, hB, -, hF, hS, hM, hF2⟩
                obtain ⟨RD, i6, t6⟩ := turn_next (LL := wS.heap.size + 1) AP.out LA.out C4.out IA.out TA.out DA.out hP'.out LBI.out.1 (fun k hk hk' => B4.out.block k hk hk') B4.out.size b5A.out OA.out hK hB hF hS hM hF2 hTB.1
                have PS := Past.of_keep LA.out.kept hB.size hF
                have P6 := PS.block _ _ PA.out (fun _ _ e => by cases e) (fun _ _ e => by cases e)
                have J6 := PS.block _ _ JA.out (fun _ _ e => by cases e) (fun _ _ e => by cases e)
                have P7 := Lib.hid (show (W6.setCell ⟨bi, 0, none⟩ (.int .i64 ((i : Int) + 1))).heap[wS.heap.size + 1]? = some (.loop (lst lo .busy none)) from (Below.heap_setCell _ _ _ _ (by have := LBI.out; simp only [ne_eq]; omega)).trans P6)
                have J7 := Lib.hid (show (W6.setCell ⟨bi, 0, none⟩ (.int .i64 ((i : Int) + 1))).heap[wS.heap.size]? = some (.deferred (some [])) from (Below.heap_setCell _ _ _ _ (by have := LBI.out; simp only [ne_eq]; omega)).trans J6)
                have RDH := Lib.hid RD
                have i7 : W6.cell? ⟨bi, 0, none⟩ = some (.int .i64 i) := cell_of_row _ _ 0 _ _ _ i6
                have fi7 := frozen_of_row _ _ 0 _ _ i6
                have t7 : W6.cell? ⟨bt, 0, none⟩ = some (.int .i64 0) := cell_of_row _ _ 0 _ _ _ t6
                have ne7 := hTB.1
                clear hK hB hF hS hM hF2 RD i6 t6 PS P6 J6 c1 hk1 LA L5 IA TA DA OA CO N1 N2 N3
                by_cases h3 : i + 1 = 3
                · have H3 := Lib.hid h3
                  have b1 : ((i : Int) + 1 == 3) = true := beq_iff_eq.2 (by omega)
                  clear h3
                  gi_wp2
                  exact roundTo_exit P7.out J7.out ⟨rfl, rfl, H3.out, RDH.out⟩
                · have H3 := Lib.hid h3
                  have b1 : ((i : Int) + 1 == 3) = false := beq_false_of_ne (by omega)
                  clear h3
                  gi_wp2
                  exact roundTo_normal P7.out J7.out ⟨fun _ => H3.out, RDH.out⟩
              · rintro e W2 (⟨rfl, W5, r1, ⟨r2, r3⟩, rfl, r5, r6⟩ | ⟨rfl, c, W5, r1, ⟨rfl, r2, r4, r3⟩, rfl, r5, r6⟩)
                · exact ⟨W5, _, r3, rfl, r5, r6, .inl ⟨rfl, r2, rfl⟩⟩
                · exact ⟨W5, _, r3, rfl, r5, r6, .inr ⟨rfl, r2, r4, rfl⟩⟩)
            have EL := ES.out.on q3
            have hgp : ∀ (W1 W2 : World), Gap ((loopW wS lo).heap.size + 4) ((loopW wS lo).heap.size + 7) W1 W2 → Off PM W1 W2 := fun W1 W2 hg => Off.of_gap hg (fun k k1 k2 => (HMI.out k).2 (by omega))
            refine (each_it NB bN bS bO ao' cap' bs base seed 5 (wS.heap.size + 1)
              (fun i W => (TurnI g w5 kb bi bt 0 wT (fun k => NB ≤ k ∧ k < n1) PP i W ∧ (0 = (0 : Int) → i < 3)) ∧ W.heap[wS.heap.size + 1]? = some (.loop lo) ∧ W.heap[wS.heap.size]? = some (.deferred (some [])))
              (fun W => (TurnI g w5 kb bi bt 0 wT (fun k => NB ≤ k ∧ k < n1) PP 3 W ∧ 0 = (0 : Int)) ∧ W.heap[wS.heap.size + 1]? = some (.loop (lst lo .done (some (.exit 6)))) ∧ W.heap[wS.heap.size]? = some (.deferred (some [])))
              (loopW wS lo) EL (by omega) h2 ?_ ?_ ?_ ?_).mono ?_
            · rintro i W1 W2 ⟨⟨j1, j2⟩, j6, j7⟩ hg
              have l1 := (Array.getElem?_eq_some_iff.1 j6).1
              have l2 := (Array.getElem?_eq_some_iff.1 j7).1
              exact ⟨⟨j1.move (hgp _ _ hg) (fun _ h => h) AP.out, j2⟩, (hg.block _ l1 (by omega)).trans j6, (hg.block _ l2 (by omega)).trans j7⟩
            · rintro W1 W2 ⟨⟨j1, j2⟩, j6, j7⟩ hg
              have l1 := (Array.getElem?_eq_some_iff.1 j6).1
              have l2 := (Array.getElem?_eq_some_iff.1 j7).1
              exact ⟨⟨j1.move (hgp _ _ hg) (fun _ h => h) AP.out, j2⟩, (hg.block _ l1 (by omega)).trans j6, (hg.block _ l2 (by omega)).trans j7⟩
            · rintro i W0 W1 v hb1 hg hgo ⟨⟨j1, j2⟩, j6, j7⟩ hlt hu hO
              have l1 := (Array.getElem?_eq_some_iff.1 j6).1
              have l2 := (Array.getElem?_eq_some_iff.1 j7).1
              have hil : i < l.length := by
                rcases Nat.lt_or_ge i l.length with h | h
                · exact h
                · rcases ends_of OV.out LEN.out with ⟨h', _⟩ | ⟨_, h'⟩
                  · omega
                  · rcases Nat.lt_or_ge l.length i with h'' | h''
                    · exact (h'.2 (hg _ h'')).elim
                    · obtain rfl : i = l.length := by omega
                      exact (h'.2 hgo).elim
              obtain ⟨⟨off, x, vq, d⟩, hq⟩ : ∃ q, l[i]? = some q := ⟨l[i], List.getElem?_eq_getElem hil⟩
              obtain ⟨-, u1, u2, u3⟩ := TO.out i _ hq
              dsimp only at u1 u2 u3
              subst u1 u2 u3
              obtain ⟨aq, cq, rfl, -, -, -, -, -⟩ := hO.slice
              refine YieldAt.mono (HRound.out i _ _ vq _ aq cq W0 W1 hq j1 (hgp _ _ hu) j2 (by omega) hO ((hu.block _ l1 (by omega)).trans j6) ((hu.block _ l2 (by omega)).trans j7)) ?_
              rintro e W2 ⟨W5, o, ⟨r1, r2, r3⟩, rfl, r4, r5, h⟩
              have l5 := (Array.getElem?_eq_some_iff.1 r4).1
              have hput : Off (fun k => k = wS.heap.size + 1) W5 (W5.putObj (wS.heap.size + 1) (.loop o)) := ⟨rfl, rfl, rfl, by simp, fun k _ hk => World.putObj_heap_other hk⟩
              have T2 := r1.move hput (fun k hk => (HMI.out k).2 (by subst hk; omega)) AP.out
              have HK : KeepE (loopW wS lo).heap.size ((loopW wS lo).heap.size + 7) ao' W1 (W5.putObj (wS.heap.size + 1) (.loop o)) := by
                refine ⟨Nat.le_trans r2 hput.size, fun k k1 k2 k3 => ?_, fun g' o' e' k3 => ?_⟩
                · exact (hput.block k (Nat.lt_of_lt_of_le k3 r2) (by omega)).trans (r3 k k3 ((HPI.out k).2 (.inr (by omega))) (by omega))
                · have hgb := EL.gB g' o' e'
                  have hlt' : g' < n1 := EB.out g' o' e' (by have := hgo.1; omega)
                  exact (hput.block g' (Nat.lt_of_lt_of_le k3 r2) (by have := LBI.out; omega)).trans (r3 g' k3 ((HPI.out g').2 (.inl ⟨hgb, hlt'⟩)) (by have := LBI.out; omega))
              rcases h with ⟨rfl, hx, rfl⟩ | ⟨rfl, hx, hx3, rfl⟩
              · exact .inl ⟨rfl, ⟨⟨T2, fun h => by have := hx h; have := j2 h; omega⟩, r4, r5⟩, HK⟩
              · refine .inr ⟨rfl, ⟨⟨?_, hx⟩, r4, r5⟩, HK⟩
                rw [hx3] at T2
                exact T2
            · exact ⟨⟨START.out, fun _ => by decide⟩, q1, q2⟩
            · rintro e W' ⟨⟨v0, rfl⟩, h⟩
              refine ⟨⟨v0, rfl⟩, range_or (fun Wx => ∃ N, TurnI g w5 kb bi bt 0 wT (fun k => NB ≤ k ∧ k < n1) PP N Wx ∧ (N = l.length ∨ (0 = (0 : Int) ∧ N = 3)) ∧ Wx.heap[wS.heap.size]? = some (.deferred (some []))) ?_ ?_⟩
              · rintro Wx ⟨N, hTI, hN, hD⟩
                have HTI := Lib.hid hTI
                have HDD := Lib.hid hD
                have HN := Lib.hid hN
                clear h hTI hD hN HRound START q1 q2 q3 q4 EL hgp hlo
                obtain ⟨lv, z, xs, hL, hC, hi, ht, hd⟩ := HTI.out
                have LX := Lib.hid hL
                have DX := Lib.hid hd
                have CX := Lib.hid hC
                have ci : Wx.cell? ⟨bi, 0, none⟩ = some (.int .i64 N) := cell_of_row _ _ 0 _ _ _ hi
                have ct : Wx.cell? ⟨bt, 0, none⟩ = some (.int .i64 0) := cell_of_row _ _ 0 _ _ _ ht
                have cal : Wx.cell? ⟨w3.heap.size + 1, 0, none⟩ = some (.slice aa l.length ca) := cell_of_row _ _ 0 _ _ _ (HROW.out Wx hL.off).2
                have hlow : Off (fun j => j = g) w5 Wx := hL.off
                have BX := Lib.hid (show Below w.heap.size w Wx from hlow.below B5.out (fun k hk e => by have := GW.out; omega) B5.out.size)
                clear hL hC hi ht hd hlow
                rcases (show N = l.length ∨ (N = 3 ∧ ¬ N = l.length) from by rcases HN.out with h | h <;> omega) with hN | ⟨hN, hN'⟩
                · subst hN
                  go_wp2_with fail
                  have bX := below_alloc Wx (.cells #[.int .i64 1] 3)
                  have szX : (Wx.alloc (.cells #[.int .i64 1] 3)).heap.size = Wx.heap.size + 1 := by show (Wx.heap.push _).size = _; rw [Array.size_push]
                  have LT := Lib.hid (LX.out.keep bX)
                  have ET := Lib.hid ((ET.out.same EBN.out.1 EBN.out.2.1 EBN.out.2.2 EB.out (fun k h1 h2 => (DX.out k ⟨h1, h2⟩).2)).on bX)
                  have TB := Lib.hid (heap_alloc_new Wx (.cells #[.int .i64 1] 3))
                  have BT := Lib.hid (below_trans BX.out bX)
                  have D0X := (bX.block wS.heap.size (heap_lt HDD.out)).trans HDD.out
                  have CLT : Hid (Clear (fun j => (NB ≤ j ∧ j < n1) ∨ j = wS.heap.size) lv xs) := Lib.hid ⟨fun q hq h => CX.out.1 q hq ((HPI.out q).2 (by omega)), fun x hx q hq h => CX.out.2 x hx q hq ((HPI.out q).2 (by omega))⟩
                  obtain ⟨wT1, hwT1⟩ : ∃ wT1, Wx.alloc (.cells #[.int .i64 1] 3) = wT1 := ⟨_, rfl⟩
                  obtain ⟨bt1, hbt1⟩ : ∃ bt1, Wx.heap.size = bt1 := ⟨_, rfl⟩
                  obtain ⟨D0, hD0⟩ : ∃ D0, wS.heap.size = D0 := ⟨_, rfl⟩
                  have D0B := Lib.hid (show n1 ≤ D0 ∧ D0 < bt1 from by have := LBI.out; have := heap_lt HDD.out; omega)
                  rw [hwT1] at LT ET TB BT szX D0X
                  rw [hbt1] at TB szX
                  rw [hD0] at CLT D0X
                  rw [hwT1, hbt1, hD0]
                  have HD0 := Lib.hid D0X
                  have BND := Lib.hid (show n1 ≤ bt1 ∧ w5.heap.size ≤ NB ∧ NB ≤ n1 ∧ bt1 < wT1.heap.size from by have := BND.out; have := D0B.out; omega)
                  clear bX szX LX DX CX HDD hwT1 hbt1 hD0 D0X BX HTI HN ci ct cal
                  rw [rounds_succ]
                  obtain ⟨wS, hwS⟩ : ∃ wS, wT1.alloc (.cells #[.int .i64 0] 3) = wS := ⟨_, rfl⟩
                  have bS := below_alloc wT1 (.cells #[.int .i64 0] 3)
                  have hnS := heap_alloc_new wT1 (.cells #[.int .i64 0] 3)
                  have szS : (wT1.alloc (.cells #[.int .i64 0] 3)).heap.size = wT1.heap.size + 1 := by show (wT1.heap.push _).size = _; rw [Array.size_push]
                  rw [hwS] at bS hnS szS
                  obtain ⟨bi, hbi⟩ : ∃ bi, wT1.heap.size = bi := ⟨_, rfl⟩
                  rw [hbi] at hnS szS
                  have HWS := Lib.hid hwS
                  have HBI := Lib.hid hbi
                  have LS := Lib.hid (LT.out.keep bS)
                  have ES := Lib.hid (ET.out.on bS)
                  have IS := Lib.hid hnS
                  have TS := Lib.hid ((bS.block _ (heap_lt TB.out)).trans TB.out)
                  have BS := Lib.hid (below_trans BT.out bS)
                  have BTW := Lib.hid bS
                  have SS := Lib.hid szS
                  have t0 := cell_of_row _ _ 0 _ _ _ TB.out
                  clear hwS hbi bS hnS szS
                  go_wp2_with fail
                  rw [HWS.out, HBI.out]
                  clear HWS t0
                  refine wpIn_wide.1 (range_in (n := 8) rfl (enters_of Try.func75 (by kernel_rfl) rfl) fun fn lo hlo => ?_)
                  obtain ⟨q1, q2, q3, q4⟩ := loopW_at wS lo
                  simp only [List.append_toArray, List.cons_append, List.nil_append]
                  have hTB : bi ≠ bt1 ∧ bt1 < bi := by have := heap_lt TB.out; have := HBI.out; omega
                  obtain ⟨PP, hPP⟩ : ∃ PP : Nat → Prop, PP = fun k => ((NB ≤ k ∧ k < n1) ∨ k = D0) ∨ (wS.heap.size ≤ k ∧ k < wS.heap.size + 9) := ⟨_, rfl⟩
                  have PPI : ∀ k, PP k ↔ ((NB ≤ k ∧ k < n1) ∨ k = D0) ∨ (wS.heap.size ≤ k ∧ k < wS.heap.size + 9) := fun k => by rw [hPP]
                  have HPI := Lib.hid PPI
                  have p1 : ¬ PP kb := fun h => by have := (PPI kb).1 h; have := KB7.out; have := SS.out; have := HBI.out; have := heap_lt TB.out; have := BND.out; have := D0B.out; omega
                  have p2 : ¬ PP (kb + 1) := fun h => by have := (PPI (kb + 1)).1 h; have := KB7.out; have := SS.out; have := HBI.out; have := heap_lt TB.out; have := BND.out; have := D0B.out; omega
                  have p3 : ¬ PP bi := fun h => by have := (PPI bi).1 h; have := SS.out; have := HBI.out; have := heap_lt TB.out; have := BND.out; have := D0B.out; omega
                  have p4 : ¬ PP bt1 := fun h => by have := (PPI bt1).1 h; have := SS.out; have := HBI.out; have := heap_lt TB.out; have := BND.out; have := D0B.out; omega
                  have p5 : ∀ k, k < w5.heap.size → ¬ PP k := fun k hk h => by have := (PPI k).1 h; have := SS.out; have := HBI.out; have := heap_lt TB.out; have := BND.out; have := D0B.out; omega
                  obtain ⟨PM, hPM⟩ : ∃ PM : Nat → Prop, PM = fun k => wS.heap.size ≤ k ∧ k < wS.heap.size + 9 := ⟨_, rfl⟩
                  have HMI : Hid (∀ k, PM k ↔ wS.heap.size ≤ k ∧ k < wS.heap.size + 9) := Lib.hid fun k => by rw [hPM]
                  have AP := Lib.hid (show Apt w5 kb bi bt1 (fun k => (NB ≤ k ∧ k < n1) ∨ k = D0) PP PM from ⟨p1, p2, p3, p4, p5, fun k h => (PPI k).2 (.inr ((HMI.out k).1 h)), (fun k h => (PPI k).2 (.inl h)), (fun k h h' => by have := (HMI.out k).1 h'; have := SS.out; have := HBI.out; have := BND.out; have := D0B.out; omega)⟩)
                  clear hPM
                  have CLS : Clear PP lv xs := ⟨fun q hq h => by
                    have h1 := CLT.out.1 q hq
                    have h2 := LT.out.old.1 q hq
                    have := (PPI q).1 h
                    have := D0B.out
                    have := BND.out
                    have := SS.out
                    have := HBI.out
                    omega, fun x hx q hq h => by
                    have h1 := CLT.out.2 x hx q hq
                    have h2 := LT.out.old.2 x hx q hq
                    have := (PPI q).1 h
                    have := D0B.out
                    have := BND.out
                    have := SS.out
                    have := HBI.out
                    omega⟩
                  have BTS := Lib.hid (show Below wT1.heap.size wT1 (loopW wS lo) from below_trans BTW.out q3)
                  have START : Hid (TurnI g w5 kb bi bt1 1 wT1 (fun k => (NB ≤ k ∧ k < n1) ∨ k = D0) PP 0 (loopW wS lo)) := Lib.hid ⟨lv, z, xs, LS.out.keep q3, CLS, (q3.block bi (by have := SS.out; omega)).trans IS.out, (q3.block bt1 (heap_lt TS.out)).trans TS.out, (fun k h => ⟨Nat.lt_of_lt_of_le (show k < wT1.heap.size by have := BND.out; have := D0B.out; omega) BTS.out.size, BTS.out.block k (by have := BND.out; have := D0B.out; omega)⟩)⟩
                  have HROW : Hid (∀ W : World, Off (fun j => j = g) w5 W → RowAt 64 3 cells3 W w2.heap.size (.slice aa l.length ca) l ∧ W.heap[w3.heap.size + 1]? = some (.cells #[.slice aa l.length ca] 58 (0, 0))) := Lib.hid fun W h => ⟨ROW5.out.off fun g' h1 h2 => h.block g' h2 (by have := GL2.out; omega), (h.block _ (heap_lt A5.out) (by have := GL3.out; omega)).trans A5.out⟩
                  have LBI := Lib.hid (show w5.heap.size ≤ bi ∧ bi < wS.heap.size ∧ n1 ≤ bi from by have := SS.out; have := HBI.out; have := heap_lt TB.out; have := BND.out; have := D0B.out; omega)
                  clear CLS p1 p2 p3 p4 p5 hPP PPI
                  have HRound : Hid (∀ (i : Nat) (off x : Int) (vq : Value) (d : List (BitVec 8)) (aq : Option Addr) (cq : Nat) (W0 W1 : World), l[i]? = some ⟨off, x, vq, d⟩ → TurnI g w5 kb bi bt1 1 wT1 (fun k => (NB ≤ k ∧ k < n1) ∨ k = D0) PP i W0 → Off PM W0 W1 → (1 = (0 : Int) → i < 3) → wS.heap.size + 9 ≤ W0.heap.size → OwnB W1 W0.heap.size (.slice aq d.length cq) d →
                      W1.heap[wS.heap.size + 1]? = some (.loop lo) → W1.heap[wS.heap.size]? = some (.deferred (some [])) →
                      YieldAt Fence.wide 5 Try.prog (wS.heap.size + 1) #[.int .i64 off, .agg #[.int .i64 x, .slice aq d.length cq]] W1 fun e W2 => ∃ W5 o, RdTo g w5 kb bi bt1 1 wT1 (fun k => (NB ≤ k ∧ k < n1) ∨ k = D0) PP (wS.heap.size + 1) i W1 W5 ∧ W2 = W5.putObj (wS.heap.size + 1) (.loop o) ∧ W2.heap[wS.heap.size + 1]? = some (.loop o) ∧ W2.heap[wS.heap.size]? = some (.deferred (some [])) ∧
                        ((e = .returned (.bool true) ∧ (1 = (0 : Int) → i + 1 ≠ 3) ∧ o = lo) ∨ (e = .returned (.bool false) ∧ 1 = (0 : Int) ∧ i + 1 = 3 ∧ o = lst lo .done (some (.exit 6))))) := Lib.hid (by
                    intro i off x vq d aq cq W0 W1 hq hT hu hT3 hsz hO J2 J3
                    have l1 := (Array.getElem?_eq_some_iff.1 J2).1
                    have l2 := (Array.getElem?_eq_some_iff.1 J3).1
                    have HQ := Lib.hid hq
                    have HTI := Lib.hid hT
                    have HU := Lib.hid hu
                    have HO := Lib.hid hO
                    have HT3 := Lib.hid hT3
                    have HSZ := Lib.hid (show wS.heap.size + 9 ≤ W0.heap.size ∧ W0.heap.size ≤ W1.heap.size from ⟨hsz, hu.size⟩)
                    have hil : i < l.length := (List.getElem?_eq_some_iff.1 hq).1
                    have hdl : d.length ≤ 4096 := told_small TO.out hq
                    clear hq hT hO hT3 hsz hu
                    refine YieldAt.mono (round_in hlo trivial J2 J3 (by omega) rfl
                      (RdN 1 i (RdTo g w5 kb bi bt1 1 wT1 (fun k => (NB ≤ k ∧ k < n1) ∨ k = D0) PP (wS.heap.size + 1) i W1))
                      (RdX 1 i (RdTo g w5 kb bi bt1 1 wT1 (fun k => (NB ≤ k ∧ k < n1) ∨ k = D0) PP (wS.heap.size + 1) i W1)) ?_) ?_
                    · have K2 := Lib.hid J2
                      have K3 := Lib.hid J3
                      clear l1 l2 J2 J3
                      gi_wp2
                      have J2 := K2.out
                      have J3 := K3.out
                      have l1 := (Array.getElem?_eq_some_iff.1 J2).1
                      have l2 := (Array.getElem?_eq_some_iff.1 J3).1
                      obtain ⟨p1, p2, p3, p4⟩ := round_box W1 #[.int .i64 x, .slice aq d.length cq] 34 (wS.heap.size + 1) (.loop (lst lo .busy none)) (by omega)
                      refine ⟨p4, (below_alloc W1 _).block wS.heap.size (by omega), ?_⟩
                      obtain ⟨W4, hW4⟩ : ∃ W4, (W1.alloc (.cells #[.int .i64 x, .slice aq d.length cq] 34)).putObj (wS.heap.size + 1) (.loop (lst lo .busy none)) = W4 := ⟨_, rfl⟩
                      rw [hW4]
                      rw [hW4] at p1 p2 p3
                      have hLLP : PM (wS.heap.size + 1) := (HMI.out _).2 ⟨by omega, by omega⟩
                      have ho14 : Off PM W0 W4 := HU.out.trans (Off.of_but p2 hLLP)
                      obtain ⟨lv, z, xs, hL0, hC0, hi0, ht0, hd0⟩ := HTI.out
                      have FR := Lib.hid (hL0.fresh HO.out (Nat.le_refl _))
                      have hL4 := hL0.move (Q := PM) ⟨fun q hq h => hC0.1 q hq (AP.out.sub q h), fun x hx q hq h => hC0.2 x hx q hq (AP.out.sub q h)⟩ ho14 (fun h => AP.out.k0 (AP.out.sub _ h)) (fun h => AP.out.k1 (AP.out.sub _ h)) (fun j hj hp => (AP.out.low j hj (AP.out.sub _ hp)).elim)
                      have hi4 := (ho14.block _ (heap_lt hi0) (fun h => AP.out.i (AP.out.sub _ h))).trans hi0
                      have ht4 := (ho14.block _ (heap_lt ht0) (fun h => AP.out.t (AP.out.sub _ h))).trans ht0
                      have hd4 : ∀ k : Nat, (fun k => (NB ≤ k ∧ k < n1) ∨ k = D0) k → k < W4.heap.size ∧ W4.heap[k]? = wT1.heap[k]? := fun k hk => ⟨Nat.lt_of_lt_of_le (hd0 k hk).1 ho14.size, (ho14.block _ (hd0 k hk).1 (AP.out.dM k hk)).trans (hd0 k hk).2⟩
                      obtain ⟨RK, hal⟩ := HROW.out W4 hL4.off
                      obtain ⟨ga, cc, hv, -, -, hcell⟩ := row_at RK.row (by omega)
                      injection hv with h1 _ h3
                      subst h1 h3
                      obtain ⟨f2, f3, f4⟩ := flat3 l i _ HQ.out
                      have oq := RK.own _ (List.mem_of_getElem? HQ.out)
                      dsimp only at f2 f3 f4 oq
                      obtain ⟨ap, cp, rfl, xq, -, -, -, -⟩ := oq.slice
                      have O4 : OwnB W4 W0.heap.size (.slice aq d.length cq) d := own_off HO.out (w' := W4) (fun g' g1 g2 => p2.block g' g2 (by have := HSZ.out; omega))
                      have c0 : W4.cell? ⟨W1.heap.size, 0, none⟩ = some (.int .i64 x) := cell_of_row _ _ 0 _ _ _ p1
                      have c1 : W4.cell? ⟨W1.heap.size, 1, none⟩ = some (.slice aq d.length cq) := cell_of_row _ _ 1 _ _ _ p1
                      have v0 := cell_regrown c0
                      have v1 := cell_regrown c1
                      have v2 := cell_regrown (hcell _ _ f2)
                      have v3 := cell_regrown (hcell _ _ f3)
                      have v4 := cell_regrown (hcell _ _ f4)
                      have v5 := cell_regrown (show W4.cell? ⟨w3.heap.size + 1, 0, none⟩ = some (.slice (some ⟨ga, 0, none⟩) l.length ca) from cell_of_row _ _ 0 _ _ _ hal)
                      have v6 := cell_regrown (show W4.cell? ⟨bi, 0, none⟩ = some (.int .i64 i) from cell_of_row _ _ 0 _ _ _ hi4)
                      have t1 : ¬ (l.length : Int) ≤ (i : Int) := by omega
                      have XO := Lib.hid (own_at O4)
                      have XQ := Lib.hid xq
                      have OO := Lib.hid O4
                      have L4 := Lib.hid hL4
                      have C4 := Lib.hid hC0
                      have I4 := Lib.hid hi4
                      have T4 := Lib.hid ht4
                      have D4 := Lib.hid hd4
                      have Q4 := Lib.hid p1
                      have B4 := Lib.hid p2
                      have P3 := Lib.hid p3
                      have J3' := Lib.hid (show W4.heap[wS.heap.size]? = some (.deferred (some [])) from (p2.block _ l2 (by omega)).trans J3)
                      clear p1 p2 p3 p4 hW4 hLLP ho14 hL0 hC0 hi0 ht0 hd0 hL4 hi4 ht4 hd4 RK hal hcell f2 f3 f4 oq xq O4 c0 c1 J2 J3 l1 l2
                      gi_wp2
                      have t1 : ¬ (l.length : Int) ≤ (i : Int) := by omega
                      have t2 : decide ((l.length : Int) ≤ (i : Int)) = false := decide_eq_false t1
                      refine wpIn_round_quiet (by kernel_rfl) (by kernel_rfl) (by kernel_rfl) ?_
                      repeat (go_big_quiet_step (first
                        | (go_at_call 27; exact Calls.regrown_of (rec_same x aq ap d _ cq cp _ (XO.out.below (below_regrown _ _ _)) (XQ.out.below (below_regrown _ _ _)) rfl (by omega)))))
                      refine wpQuiet_nil ?_
                      intro W5 hW5
                      obtain ⟨⟨nq, osq⟩, hW5'⟩ := hW5
                      have b5 : Below W4.heap.size W4 W5 := by rw [hW5']; exact below_regrown _ _ _
                      clear hW5' v0 v1 v2 v3 v4 v5 v6 XO XQ
                      have bA : Below W5.heap.size W5 (W5.alloc (.cells #[.slice aq d.length cq] 31 (0, 0))) := below_alloc _ _
                      have b5A := Lib.hid (below_trans b5 bA)
                      have L5 := Lib.hid (L4.out.keep b5)
                      have LA := Lib.hid (L4.out.keep b5A.out)
                      have IA := Lib.hid ((b5A.out.block bi (heap_lt I4.out)).trans I4.out)
                      have TA := Lib.hid ((b5A.out.block bt1 (heap_lt T4.out)).trans T4.out)
                      have DA : Hid (∀ k : Nat, (fun k => (NB ≤ k ∧ k < n1) ∨ k = D0) k → k < (W5.alloc (.cells #[.slice aq d.length cq] 31 (0, 0))).heap.size ∧ (W5.alloc (.cells #[.slice aq d.length cq] 31 (0, 0))).heap[k]? = wT1.heap[k]?) := Lib.hid fun k hk => ⟨Nat.lt_of_lt_of_le (D4.out k hk).1 b5A.out.size, (b5A.out.block k (D4.out k hk).1).trans (D4.out k hk).2⟩
                      have OA := Lib.hid (OO.out.keep b5A.out)
                      have PA := Lib.hid ((b5A.out.block _ (heap_lt P3.out)).trans P3.out)
                      have JA := Lib.hid ((b5A.out.block _ (heap_lt J3'.out)).trans J3'.out)
                      have hq5 := (b5.block W1.heap.size (heap_lt Q4.out)).trans Q4.out
                      have c1 : W5.cell? ⟨W1.heap.size, 1, none⟩ = some (.slice aq d.length cq) := cell_of_row _ _ 1 _ _ _ hq5
                      have hk1 : W5.cell? ⟨kb + 1, 0, none⟩ = some (.pointer (some ⟨kb, 0, none⟩)) := cell_of_row _ _ 0 _ _ _ L5.out.kp
                      have CO := Lib.hid (come_one (xs := xs) (lo := w5.heap.size) (cell_of_row _ _ 0 _ _ _ (heap_alloc_new W5 (.cells #[.slice aq d.length cq] 31 (0, 0)))) (OA.out.base (show w5.heap.size ≤ W0.heap.size by have := LBI.out; have := HSZ.out; omega)) (by omega) FR.out)
                      have N1 := Lib.hid (show kb ≠ W5.heap.size from Nat.ne_of_lt (heap_lt L5.out.kept.box))
                      have N2 := Lib.hid (show lv.ownBlock ≠ some W5.heap.size from fun e => by obtain ⟨_, _, hc⟩ := rows_blk L5.out.kept.list e; exact Nat.lt_irrefl _ (heap_lt hc))
                      have N3 := Lib.hid (show w5.heap.size ≤ (W5.alloc (.cells #[.slice aq d.length cq] 31 (0, 0))).heap.size from Nat.le_trans LA.out.off.size (Nat.le_refl _))
                      have hP' : Hid (∀ k, PP k → k < W1.heap.size ∧ k < W0.heap.size) := Lib.hid fun k hk => by
                        have := (HPI.out k).1 hk
                        have := D0B.out
                        have := LBI.out
                        have := HSZ.out
                        omega
                      clear b5 bA hq5
                      gi_wp2
                      refine ⟨trivial, (in_round (keep_x kb w5.heap.size W5.heap.size 1 lv z xs [.slice aq d.length cq] _ LA.out.kept CO.out N1.out N2.out (by simp) N3.out LA.out.short)).mono ?_⟩
                      rintro e W6 ⟨rfl, lv', z', xs', hK, hB, -, hF, hS, hM, hF2⟩
                      obtain ⟨RD, i6, t6⟩ := turn_next (LL := wS.heap.size + 1) AP.out LA.out C4.out IA.out TA.out DA.out hP'.out LBI.out.1 (fun k hk hk' => B4.out.block k hk hk') B4.out.size b5A.out OA.out hK hB hF hS hM hF2 hTB.1
                      have PS := Past.of_keep LA.out.kept hB.size hF
                      have P6 := PS.block _ _ PA.out (fun _ _ e => by cases e) (fun _ _ e => by cases e)
                      have J6 := PS.block _ _ JA.out (fun _ _ e => by cases e) (fun _ _ e => by cases e)
                      have P7 := Lib.hid (show (W6.setCell ⟨bi, 0, none⟩ (.int .i64 ((i : Int) + 1))).heap[wS.heap.size + 1]? = some (.loop (lst lo .busy none)) from (Below.heap_setCell _ _ _ _ (by have := LBI.out; simp only [ne_eq]; omega)).trans P6)
                      have J7 := Lib.hid (show (W6.setCell ⟨bi, 0, none⟩ (.int .i64 ((i : Int) + 1))).heap[wS.heap.size]? = some (.deferred (some [])) from (Below.heap_setCell _ _ _ _ (by have := LBI.out; simp only [ne_eq]; omega)).trans J6)
                      have RDH := Lib.hid RD
                      have i7 : W6.cell? ⟨bi, 0, none⟩ = some (.int .i64 i) := cell_of_row _ _ 0 _ _ _ i6
                      have fi7 := frozen_of_row _ _ 0 _ _ i6
                      have t7 : W6.cell? ⟨bt1, 0, none⟩ = some (.int .i64 1) := cell_of_row _ _ 0 _ _ _ t6
                      have ne7 := hTB.1
                      clear hK hB hF hS hM hF2 RD i6 t6 PS P6 J6 c1 hk1 LA L5 IA TA DA OA CO N1 N2 N3
                      gi_wp2
                      exact roundTo_normal P7.out J7.out ⟨fun h => by omega, RDH.out⟩
                    · rintro e W2 (⟨rfl, W5, r1, ⟨r2, r3⟩, rfl, r5, r6⟩ | ⟨rfl, c, W5, r1, ⟨rfl, r2, r4, r3⟩, rfl, r5, r6⟩)
                      · exact ⟨W5, _, r3, rfl, r5, r6, .inl ⟨rfl, r2, rfl⟩⟩
                      · exact ⟨W5, _, r3, rfl, r5, r6, .inr ⟨rfl, r2, r4, rfl⟩⟩)
                  have EL := ES.out.on q3
                  have hgp : ∀ (W1 W2 : World), Gap ((loopW wS lo).heap.size + 4) ((loopW wS lo).heap.size + 7) W1 W2 → Off PM W1 W2 := fun W1 W2 hg => Off.of_gap hg (fun k k1 k2 => (HMI.out k).2 (by omega))
                  refine (each_it NB bN bS bO ao' cap' bs base seed 5 (wS.heap.size + 1)
                    (fun i W => (TurnI g w5 kb bi bt1 1 wT1 (fun k => (NB ≤ k ∧ k < n1) ∨ k = D0) PP i W ∧ (1 = (0 : Int) → i < 3)) ∧ W.heap[wS.heap.size + 1]? = some (.loop lo) ∧ W.heap[wS.heap.size]? = some (.deferred (some [])))
                    (fun W => (TurnI g w5 kb bi bt1 1 wT1 (fun k => (NB ≤ k ∧ k < n1) ∨ k = D0) PP 3 W ∧ 1 = (0 : Int)) ∧ W.heap[wS.heap.size + 1]? = some (.loop (lst lo .done (some (.exit 6)))) ∧ W.heap[wS.heap.size]? = some (.deferred (some [])))
                    (loopW wS lo) EL (by omega) h2 ?_ ?_ ?_ ?_).mono ?_
                  · rintro i W1 W2 ⟨⟨j1, j2⟩, j6, j7⟩ hg
                    have l1 := (Array.getElem?_eq_some_iff.1 j6).1
                    have l2 := (Array.getElem?_eq_some_iff.1 j7).1
                    exact ⟨⟨j1.move (hgp _ _ hg) (fun _ h => h) AP.out, j2⟩, (hg.block _ l1 (by omega)).trans j6, (hg.block _ l2 (by omega)).trans j7⟩
                  · rintro W1 W2 ⟨⟨j1, j2⟩, j6, j7⟩ hg
                    have l1 := (Array.getElem?_eq_some_iff.1 j6).1
                    have l2 := (Array.getElem?_eq_some_iff.1 j7).1
                    exact ⟨⟨j1.move (hgp _ _ hg) (fun _ h => h) AP.out, j2⟩, (hg.block _ l1 (by omega)).trans j6, (hg.block _ l2 (by omega)).trans j7⟩
                  · rintro i W0 W1 v hb1 hg hgo ⟨⟨j1, j2⟩, j6, j7⟩ hlt hu hO
                    have l1 := (Array.getElem?_eq_some_iff.1 j6).1
                    have l2 := (Array.getElem?_eq_some_iff.1 j7).1
                    have hil : i < l.length := by
                      rcases Nat.lt_or_ge i l.length with h | h
                      · exact h
                      · rcases ends_of OV.out LEN.out with ⟨h', _⟩ | ⟨_, h'⟩
                        · omega
                        · rcases Nat.lt_or_ge l.length i with h'' | h''
                          · exact (h'.2 (hg _ h'')).elim
                          · obtain rfl : i = l.length := by omega
                            exact (h'.2 hgo).elim
                    obtain ⟨⟨off, x, vq, d⟩, hq⟩ : ∃ q, l[i]? = some q := ⟨l[i], List.getElem?_eq_getElem hil⟩
                    obtain ⟨-, u1, u2, u3⟩ := TO.out i _ hq
                    dsimp only at u1 u2 u3
                    subst u1 u2 u3
                    obtain ⟨aq, cq, rfl, -, -, -, -, -⟩ := hO.slice
                    refine YieldAt.mono (HRound.out i _ _ vq _ aq cq W0 W1 hq j1 (hgp _ _ hu) j2 (by omega) hO ((hu.block _ l1 (by omega)).trans j6) ((hu.block _ l2 (by omega)).trans j7)) ?_
                    rintro e W2 ⟨W5, o, ⟨r1, r2, r3⟩, rfl, r4, r5, h⟩
                    have l5 := (Array.getElem?_eq_some_iff.1 r4).1
                    have hput : Off (fun k => k = wS.heap.size + 1) W5 (W5.putObj (wS.heap.size + 1) (.loop o)) := ⟨rfl, rfl, rfl, by simp, fun k _ hk => World.putObj_heap_other hk⟩
                    have T2 := r1.move hput (fun k hk => (HMI.out k).2 (by subst hk; omega)) AP.out
                    have HK : KeepE (loopW wS lo).heap.size ((loopW wS lo).heap.size + 7) ao' W1 (W5.putObj (wS.heap.size + 1) (.loop o)) := by
                      refine ⟨Nat.le_trans r2 hput.size, fun k k1 k2 k3 => ?_, fun g' o' e' k3 => ?_⟩
                      · exact (hput.block k (Nat.lt_of_lt_of_le k3 r2) (by omega)).trans (r3 k k3 ((HPI.out k).2 (.inr (by omega))) (by omega))
                      · have hgb := EL.gB g' o' e'
                        have hlt' : g' < n1 := EB.out g' o' e' (by have := hgo.1; omega)
                        exact (hput.block g' (Nat.lt_of_lt_of_le k3 r2) (by have := LBI.out; omega)).trans (r3 g' k3 ((HPI.out g').2 (.inl <| .inl ⟨hgb, hlt'⟩)) (by have := LBI.out; omega))
                    rcases h with ⟨rfl, hx, rfl⟩ | ⟨rfl, hx, hx3, rfl⟩
                    · exact .inl ⟨rfl, ⟨⟨T2, fun h => by have := hx h; have := j2 h; omega⟩, r4, r5⟩, HK⟩
                    · refine .inr ⟨rfl, ⟨⟨?_, hx⟩, r4, r5⟩, HK⟩
                      rw [hx3] at T2
                      exact T2
                  · exact ⟨⟨START.out, fun _ => by decide⟩, q1, q2⟩
                  · rintro e W' ⟨⟨v0, rfl⟩, h⟩
                    refine ⟨⟨v0, rfl⟩, range_or (fun Wx => ∃ N, TurnI g w5 kb bi bt1 1 wT1 (fun k => (NB ≤ k ∧ k < n1) ∨ k = D0) PP N Wx ∧ (N = l.length ∨ (1 = (0 : Int) ∧ N = 3)) ∧ Wx.heap[wS.heap.size]? = some (.deferred (some []))) ?_ ?_⟩
                    · rintro Wx ⟨N, hTI, hN, hD⟩
                      have HTI := Lib.hid hTI
                      have HDD := Lib.hid hD
                      have HN := Lib.hid hN
                      clear h hTI hD hN HRound START q1 q2 q3 q4 EL hgp hlo
                      obtain ⟨lv, z, xs, hL, hC, hi, ht, hd⟩ := HTI.out
                      have LX := Lib.hid hL
                      have DX := Lib.hid hd
                      have ci : Wx.cell? ⟨bi, 0, none⟩ = some (.int .i64 N) := cell_of_row _ _ 0 _ _ _ hi
                      have ct : Wx.cell? ⟨bt1, 0, none⟩ = some (.int .i64 1) := cell_of_row _ _ 0 _ _ _ ht
                      have cal : Wx.cell? ⟨w3.heap.size + 1, 0, none⟩ = some (.slice aa l.length ca) := cell_of_row _ _ 0 _ _ _ (HROW.out Wx hL.off).2
                      have hlow : Off (fun j => j = g) w5 Wx := hL.off
                      have BX := Lib.hid (show Below w.heap.size w Wx from hlow.below B5.out (fun k hk e => by have := GW.out; omega) B5.out.size)
                      clear hL hC hi ht hd hlow
                      obtain rfl : N = l.length := by rcases HN.out with h | h <;> omega
                      have bE := below_alloc Wx (.cells #[.int .i64 2] 3)
                      have LE := Lib.hid (LX.out.keep bE)
                      have KPE : (Wx.alloc (.cells #[.int .i64 2] 3)).cell? ⟨kb + 1, 0, none⟩ = some (.pointer (some ⟨kb, 0, none⟩)) := cell_of_row _ _ 0 _ _ _ LE.out.kp
                      have RE := Lib.hid ((bE.block w.heap.size (by have := GW.out; have := LX.out.off.size; have := GL.out; omega)).trans ((LX.out.off.block w.heap.size (heap_lt R5.out) (by have := GW.out; omega)).trans R5.out))
                      have DE1 := Lib.hid ((bE.block wS.heap.size (heap_lt HDD.out)).trans HDD.out)
                      have DE0 := Lib.hid ((bE.block D0 (DX.out D0 (.inr rfl)).1).trans ((DX.out D0 (.inr rfl)).2.trans HD0.out))
                      have BE := Lib.hid (below_trans BX.out bE)
                      have DD01 := Lib.hid (show D0 < wS.heap.size from by have := D0B.out; have := LBI.out; have := SS.out; have := HBI.out; have := BND.out; omega)
                      obtain ⟨alv, clv, hlv⟩ := row_slice LE.out.kept.list
                      subst hlv
                      clear bE
                      go_wp2_with fail
                      rw [rounds_succ]
                      go_wp2_with fail
                      refine (apart_x kb w5.heap.size alv xs.length clv z xs _ LE.out.kept rfl LE.out.short LE.out.off.size).mono ?_
                      rintro e wZ ⟨rfl, hbz⟩
                      have RZ := (hbz.b.block w.heap.size (heap_lt R5.out)).trans RE.out
                      have z0 := cell_of_row _ _ 0 _ _ _ RZ
                      have fz0 := frozen_of_row _ _ 0 _ _ RZ
                      have Z1 := hbz.nc _ _ DE1.out (fun _ _ _ e => by cases e)
                      have Z0 := hbz.nc _ _ DE0.out (fun _ _ _ e => by cases e)
                      have BZ := Lib.hid (show Below w.heap.size w (wZ.setCell ⟨w.heap.size, 0, none⟩ (.bool true)) from ((BE.out.trans (hbz.b.mono (Nat.le_of_lt (heap_lt R5.out)))).setCell (p := ⟨w.heap.size, 0, none⟩) (Nat.le_refl _) _))
                      have wne : w.heap.size < D0 := by have := D0B.out; have := BND.out; have := heap_lt R5.out; omega
                      have Y1 : (wZ.setCell ⟨w.heap.size, 0, none⟩ (.bool true)).heap[wS.heap.size]? = some (.deferred (some [])) := (Below.heap_setCell _ _ _ _ (by have := DD01.out; simp only [ne_eq]; omega)).trans Z1
                      have Y0 : (wZ.setCell ⟨w.heap.size, 0, none⟩ (.bool true)).heap[D0]? = some (.deferred (some [])) := (Below.heap_setCell _ _ _ _ (by simp only [ne_eq]; omega)).trans Z0
                      have YC : (wZ.setCell ⟨w.heap.size, 0, none⟩ (.bool true)).cell? ⟨w.heap.size, 0, none⟩ = some (.bool true) := World.cell?_setCell_same _ _ _ z0
                      have Y1H := Lib.hid Y1
                      have Y0H := Lib.hid Y0
                      have YCH := Lib.hid YC
                      clear Y1 Y0 YC Z1 Z0
                      go_wp2_with fail
                      refine noPanic_ret ?_
                      have l1 := heap_lt Y1H.out
                      have h0 : ((wZ.setCell ⟨w.heap.size, 0, none⟩ (.bool true)).putObj wS.heap.size (.deferred none)).heap[D0]? = some (.deferred (some [])) := (World.putObj_heap_other (by have := DD01.out; omega)).trans Y0H.out
                      have l0 := heap_lt h0
                      refine ⟨by simp, .inl ⟨_, _, rfl, run_takeDeferred Y1H.out, ?_⟩⟩
                      refine ⟨by simp, .inl ⟨_, _, rfl, run_takeDeferred h0, ?_⟩⟩
                      have hc1 := (World.cell?_of_block (a := ⟨w.heap.size, 0, none⟩) (show ((wZ.setCell ⟨w.heap.size, 0, none⟩ (.bool true)).putObj wS.heap.size (.deferred none)).heap[w.heap.size]? = (wZ.setCell ⟨w.heap.size, 0, none⟩ (.bool true)).heap[w.heap.size]? from World.putObj_heap_other (by have := DD01.out; omega))).trans YCH.out
                      have hc2 := (World.cell?_of_block (a := ⟨w.heap.size, 0, none⟩) (show (((wZ.setCell ⟨w.heap.size, 0, none⟩ (.bool true)).putObj wS.heap.size (.deferred none)).putObj D0 (.deferred none)).heap[w.heap.size]? = ((wZ.setCell ⟨w.heap.size, 0, none⟩ (.bool true)).putObj wS.heap.size (.deferred none)).heap[w.heap.size]? from World.putObj_heap_other (by omega))).trans hc1
                      have bb1 := But.below BZ.out (but_putObj _ wS.heap.size (.deferred none) l1) (by have := DD01.out; omega) BZ.out.size
                      have bb2 := But.below bb1 (but_putObj _ D0 (.deferred none) l0) (by omega) bb1.size
                      exact ⟨_, results_bool rfl _ _ w.heap.size (.bool true) rfl hc2, rfl, bb2⟩
                    · have hputS : ∀ (o : Loop), ∀ N, TurnI g w5 kb bi bt1 1 wT1 (fun k => (NB ≤ k ∧ k < n1) ∨ k = D0) PP N W' → W'.heap[wS.heap.size]? = some (.deferred (some [])) → (N = l.length ∨ (1 = (0 : Int) ∧ N = 3)) → ∃ N, TurnI g w5 kb bi bt1 1 wT1 (fun k => (NB ≤ k ∧ k < n1) ∨ k = D0) PP N (W'.putObj (wS.heap.size + 1) (.loop o)) ∧ (N = l.length ∨ (1 = (0 : Int) ∧ N = 3)) ∧ (W'.putObj (wS.heap.size + 1) (.loop o)).heap[wS.heap.size]? = some (.deferred (some [])) := fun o N hT hD hN => by
                        have hput : Off (fun k => k = wS.heap.size + 1) W' (W'.putObj (wS.heap.size + 1) (.loop o)) := ⟨rfl, rfl, rfl, by simp, fun k _ hk => World.putObj_heap_other hk⟩
                        exact ⟨N, hT.move hput (fun k hk => (HMI.out k).2 (by subst hk; omega)) AP.out, hN, (World.putObj_heap_other (by omega)).trans hD⟩
                      rcases h with ⟨i, hend, ⟨j1, j2⟩, j6, j7⟩ | ⟨⟨j1, j2⟩, j6, j7⟩
                      · refine .inl ⟨j6, hputS _ i j1 j7 (.inl ?_)⟩
                        rcases hend with ⟨k1, k2⟩ | ⟨k1, k2⟩ <;> rcases ends_of OV.out LEN.out with ⟨m1', m2'⟩ | ⟨m1', m2'⟩
                        · omega
                        · omega
                        · omega
                        · exact k2.uniq m2'
                      · exact .inr ⟨j6, hputS _ 3 j1 j7 (.inr ⟨j2, rfl⟩)⟩
                · subst hN
                  have b1 : ((3 : Int) == (l.length : Int)) = false := beq_false_of_ne (by omega)
                  have b2 : ((3 : Int) != (l.length : Int)) = true := by simp [bne, b1]
                  go_wp2_with fail
                  have bX := below_alloc Wx (.cells #[.int .i64 1] 3)
                  have szX : (Wx.alloc (.cells #[.int .i64 1] 3)).heap.size = Wx.heap.size + 1 := by show (Wx.heap.push _).size = _; rw [Array.size_push]
                  have LT := Lib.hid (LX.out.keep bX)
                  have ET := Lib.hid ((ET.out.same EBN.out.1 EBN.out.2.1 EBN.out.2.2 EB.out (fun k h1 h2 => (DX.out k ⟨h1, h2⟩).2)).on bX)
                  have TB := Lib.hid (heap_alloc_new Wx (.cells #[.int .i64 1] 3))
                  have BT := Lib.hid (below_trans BX.out bX)
                  have D0X := (bX.block wS.heap.size (heap_lt HDD.out)).trans HDD.out
                  have CLT : Hid (Clear (fun j => (NB ≤ j ∧ j < n1) ∨ j = wS.heap.size) lv xs) := Lib.hid ⟨fun q hq h => CX.out.1 q hq ((HPI.out q).2 (by omega)), fun x hx q hq h => CX.out.2 x hx q hq ((HPI.out q).2 (by omega))⟩
                  obtain ⟨wT1, hwT1⟩ : ∃ wT1, Wx.alloc (.cells #[.int .i64 1] 3) = wT1 := ⟨_, rfl⟩
                  obtain ⟨bt1, hbt1⟩ : ∃ bt1, Wx.heap.size = bt1 := ⟨_, rfl⟩
                  obtain ⟨D0, hD0⟩ : ∃ D0, wS.heap.size = D0 := ⟨_, rfl⟩
                  have D0B := Lib.hid (show n1 ≤ D0 ∧ D0 < bt1 from by have := LBI.out; have := heap_lt HDD.out; omega)
                  rw [hwT1] at LT ET TB BT szX D0X
                  rw [hbt1] at TB szX
                  rw [hD0] at CLT D0X
                  rw [hwT1, hbt1, hD0]
                  have HD0 := Lib.hid D0X
                  have BND := Lib.hid (show n1 ≤ bt1 ∧ w5.heap.size ≤ NB ∧ NB ≤ n1 ∧ bt1 < wT1.heap.size from by have := BND.out; have := D0B.out; omega)
                  clear bX szX LX DX CX HDD hwT1 hbt1 hD0 D0X BX HTI HN ci ct cal
                  rw [rounds_succ]
                  obtain ⟨wS, hwS⟩ : ∃ wS, wT1.alloc (.cells #[.int .i64 0] 3) = wS := ⟨_, rfl⟩
                  have bS := below_alloc wT1 (.cells #[.int .i64 0] 3)
                  have hnS := heap_alloc_new wT1 (.cells #[.int .i64 0] 3)
                  have szS : (wT1.alloc (.cells #[.int .i64 0] 3)).heap.size = wT1.heap.size + 1 := by show (wT1.heap.push _).size = _; rw [Array.size_push]
                  rw [hwS] at bS hnS szS
                  obtain ⟨bi, hbi⟩ : ∃ bi, wT1.heap.size = bi := ⟨_, rfl⟩
                  rw [hbi] at hnS szS
                  have HWS := Lib.hid hwS
                  have HBI := Lib.hid hbi
                  have LS := Lib.hid (LT.out.keep bS)
                  have ES := Lib.hid (ET.out.on bS)
                  have IS := Lib.hid hnS
                  have TS := Lib.hid ((bS.block _ (heap_lt TB.out)).trans TB.out)
                  have BS := Lib.hid (below_trans BT.out bS)
                  have BTW := Lib.hid bS
                  have SS := Lib.hid szS
                  have t0 := cell_of_row _ _ 0 _ _ _ TB.out
                  clear hwS hbi bS hnS szS
                  go_wp2_with fail
                  rw [HWS.out, HBI.out]
                  clear HWS t0
                  refine wpIn_wide.1 (range_in (n := 8) rfl (enters_of Try.func75 (by kernel_rfl) rfl) fun fn lo hlo => ?_)
                  obtain ⟨q1, q2, q3, q4⟩ := loopW_at wS lo
                  simp only [List.append_toArray, List.cons_append, List.nil_append]
                  have hTB : bi ≠ bt1 ∧ bt1 < bi := by have := heap_lt TB.out; have := HBI.out; omega
                  obtain ⟨PP, hPP⟩ : ∃ PP : Nat → Prop, PP = fun k => ((NB ≤ k ∧ k < n1) ∨ k = D0) ∨ (wS.heap.size ≤ k ∧ k < wS.heap.size + 9) := ⟨_, rfl⟩
                  have PPI : ∀ k, PP k ↔ ((NB ≤ k ∧ k < n1) ∨ k = D0) ∨ (wS.heap.size ≤ k ∧ k < wS.heap.size + 9) := fun k => by rw [hPP]
                  have HPI := Lib.hid PPI
                  have p1 : ¬ PP kb := fun h => by have := (PPI kb).1 h; have := KB7.out; have := SS.out; have := HBI.out; have := heap_lt TB.out; have := BND.out; have := D0B.out; omega
                  have p2 : ¬ PP (kb + 1) := fun h => by have := (PPI (kb + 1)).1 h; have := KB7.out; have := SS.out; have := HBI.out; have := heap_lt TB.out; have := BND.out; have := D0B.out; omega
                  have p3 : ¬ PP bi := fun h => by have := (PPI bi).1 h; have := SS.out; have := HBI.out; have := heap_lt TB.out; have := BND.out; have := D0B.out; omega
                  have p4 : ¬ PP bt1 := fun h => by have := (PPI bt1).1 h; have := SS.out; have := HBI.out; have := heap_lt TB.out; have := BND.out; have := D0B.out; omega
                  have p5 : ∀ k, k < w5.heap.size → ¬ PP k := fun k hk h => by have := (PPI k).1 h; have := SS.out; have := HBI.out; have := heap_lt TB.out; have := BND.out; have := D0B.out; omega
                  obtain ⟨PM, hPM⟩ : ∃ PM : Nat → Prop, PM = fun k => wS.heap.size ≤ k ∧ k < wS.heap.size + 9 := ⟨_, rfl⟩
                  have HMI : Hid (∀ k, PM k ↔ wS.heap.size ≤ k ∧ k < wS.heap.size + 9) := Lib.hid fun k => by rw [hPM]
                  have AP := Lib.hid (show Apt w5 kb bi bt1 (fun k => (NB ≤ k ∧ k < n1) ∨ k = D0) PP PM from ⟨p1, p2, p3, p4, p5, fun k h => (PPI k).2 (.inr ((HMI.out k).1 h)), (fun k h => (PPI k).2 (.inl h)), (fun k h h' => by have := (HMI.out k).1 h'; have := SS.out; have := HBI.out; have := BND.out; have := D0B.out; omega)⟩)
                  clear hPM
                  have CLS : Clear PP lv xs := ⟨fun q hq h => by
                    have h1 := CLT.out.1 q hq
                    have h2 := LT.out.old.1 q hq
                    have := (PPI q).1 h
                    have := D0B.out
                    have := BND.out
                    have := SS.out
                    have := HBI.out
                    omega, fun x hx q hq h => by
                    have h1 := CLT.out.2 x hx q hq
                    have h2 := LT.out.old.2 x hx q hq
                    have := (PPI q).1 h
                    have := D0B.out
                    have := BND.out
                    have := SS.out
                    have := HBI.out
                    omega⟩
                  have BTS := Lib.hid (show Below wT1.heap.size wT1 (loopW wS lo) from below_trans BTW.out q3)
                  have START : Hid (TurnI g w5 kb bi bt1 1 wT1 (fun k => (NB ≤ k ∧ k < n1) ∨ k = D0) PP 0 (loopW wS lo)) := Lib.hid ⟨lv, z, xs, LS.out.keep q3, CLS, (q3.block bi (by have := SS.out; omega)).trans IS.out, (q3.block bt1 (heap_lt TS.out)).trans TS.out, (fun k h => ⟨Nat.lt_of_lt_of_le (show k < wT1.heap.size by have := BND.out; have := D0B.out; omega) BTS.out.size, BTS.out.block k (by have := BND.out; have := D0B.out; omega)⟩)⟩
                  have HROW : Hid (∀ W : World, Off (fun j => j = g) w5 W → RowAt 64 3 cells3 W w2.heap.size (.slice aa l.length ca) l ∧ W.heap[w3.heap.size + 1]? = some (.cells #[.slice aa l.length ca] 58 (0, 0))) := Lib.hid fun W h => ⟨ROW5.out.off fun g' h1 h2 => h.block g' h2 (by have := GL2.out; omega), (h.block _ (heap_lt A5.out) (by have := GL3.out; omega)).trans A5.out⟩
                  have LBI := Lib.hid (show w5.heap.size ≤ bi ∧ bi < wS.heap.size ∧ n1 ≤ bi from by have := SS.out; have := HBI.out; have := heap_lt TB.out; have := BND.out; have := D0B.out; omega)
                  clear CLS p1 p2 p3 p4 p5 hPP PPI
                  have HRound : Hid (∀ (i : Nat) (off x : Int) (vq : Value) (d : List (BitVec 8)) (aq : Option Addr) (cq : Nat) (W0 W1 : World), l[i]? = some ⟨off, x, vq, d⟩ → TurnI g w5 kb bi bt1 1 wT1 (fun k => (NB ≤ k ∧ k < n1) ∨ k = D0) PP i W0 → Off PM W0 W1 → (1 = (0 : Int) → i < 3) → wS.heap.size + 9 ≤ W0.heap.size → OwnB W1 W0.heap.size (.slice aq d.length cq) d →
                      W1.heap[wS.heap.size + 1]? = some (.loop lo) → W1.heap[wS.heap.size]? = some (.deferred (some [])) →
                      YieldAt Fence.wide 5 Try.prog (wS.heap.size + 1) #[.int .i64 off, .agg #[.int .i64 x, .slice aq d.length cq]] W1 fun e W2 => ∃ W5 o, RdTo g w5 kb bi bt1 1 wT1 (fun k => (NB ≤ k ∧ k < n1) ∨ k = D0) PP (wS.heap.size + 1) i W1 W5 ∧ W2 = W5.putObj (wS.heap.size + 1) (.loop o) ∧ W2.heap[wS.heap.size + 1]? = some (.loop o) ∧ W2.heap[wS.heap.size]? = some (.deferred (some [])) ∧
                        ((e = .returned (.bool true) ∧ (1 = (0 : Int) → i + 1 ≠ 3) ∧ o = lo) ∨ (e = .returned (.bool false) ∧ 1 = (0 : Int) ∧ i + 1 = 3 ∧ o = lst lo .done (some (.exit 6))))) := Lib.hid (by
                    intro i off x vq d aq cq W0 W1 hq hT hu hT3 hsz hO J2 J3
                    have l1 := (Array.getElem?_eq_some_iff.1 J2).1
                    have l2 := (Array.getElem?_eq_some_iff.1 J3).1
                    have HQ := Lib.hid hq
                    have HTI := Lib.hid hT
                    have HU := Lib.hid hu
                    have HO := Lib.hid hO
                    have HT3 := Lib.hid hT3
                    have HSZ := Lib.hid (show wS.heap.size + 9 ≤ W0.heap.size ∧ W0.heap.size ≤ W1.heap.size from ⟨hsz, hu.size⟩)
                    have hil : i < l.length := (List.getElem?_eq_some_iff.1 hq).1
                    have hdl : d.length ≤ 4096 := told_small TO.out hq
                    clear hq hT hO hT3 hsz hu
                    refine YieldAt.mono (round_in hlo trivial J2 J3 (by omega) rfl
                      (RdN 1 i (RdTo g w5 kb bi bt1 1 wT1 (fun k => (NB ≤ k ∧ k < n1) ∨ k = D0) PP (wS.heap.size + 1) i W1))
                      (RdX 1 i (RdTo g w5 kb bi bt1 1 wT1 (fun k => (NB ≤ k ∧ k < n1) ∨ k = D0) PP (wS.heap.size + 1) i W1)) ?_) ?_
                    · have K2 := Lib.hid J2
                      have K3 := Lib.hid J3
                      clear l1 l2 J2 J3
                      gi_wp2
                      have J2 := K2.out
                      have J3 := K3.out
                      have l1 := (Array.getElem?_eq_some_iff.1 J2).1
                      have l2 := (Array.getElem?_eq_some_iff.1 J3).1
                      obtain ⟨p1, p2, p3, p4⟩ := round_box W1 #[.int .i64 x, .slice aq d.length cq] 34 (wS.heap.size + 1) (.loop (lst lo .busy none)) (by omega)
                      refine ⟨p4, (below_alloc W1 _).block wS.heap.size (by omega), ?_⟩
                      obtain ⟨W4, hW4⟩ : ∃ W4, (W1.alloc (.cells #[.int .i64 x, .slice aq d.length cq] 34)).putObj (wS.heap.size + 1) (.loop (lst lo .busy none)) = W4 := ⟨_, rfl⟩
                      rw [hW4]
                      rw [hW4] at p1 p2 p3
                      have hLLP : PM (wS.heap.size + 1) := (HMI.out _).2 ⟨by omega, by omega⟩
                      have ho14 : Off PM W0 W4 := HU.out.trans (Off.of_but p2 hLLP)
                      obtain ⟨lv, z, xs, hL0, hC0, hi0, ht0, hd0⟩ := HTI.out
                      have FR := Lib.hid (hL0.fresh HO.out (Nat.le_refl _))
                      have hL4 := hL0.move (Q := PM) ⟨fun q hq h => hC0.1 q hq (AP.out.sub q h), fun x hx q hq h => hC0.2 x hx q hq (AP.out.sub q h)⟩ ho14 (fun h => AP.out.k0 (AP.out.sub _ h)) (fun h => AP.out.k1 (AP.out.sub _ h)) (fun j hj hp => (AP.out.low j hj (AP.out.sub _ hp)).elim)
                      have hi4 := (ho14.block _ (heap_lt hi0) (fun h => AP.out.i (AP.out.sub _ h))).trans hi0
                      have ht4 := (ho14.block _ (heap_lt ht0) (fun h => AP.out.t (AP.out.sub _ h))).trans ht0
                      have hd4 : ∀ k : Nat, (fun k => (NB ≤ k ∧ k < n1) ∨ k = D0) k → k < W4.heap.size ∧ W4.heap[k]? = wT1.heap[k]? := fun k hk => ⟨Nat.lt_of_lt_of_le (hd0 k hk).1 ho14.size, (ho14.block _ (hd0 k hk).1 (AP.out.dM k hk)).trans (hd0 k hk).2⟩
                      obtain ⟨RK, hal⟩ := HROW.out W4 hL4.off
                      obtain ⟨ga, cc, hv, -, -, hcell⟩ := row_at RK.row (by omega)
                      injection hv with h1 _ h3
                      subst h1 h3
                      obtain ⟨f2, f3, f4⟩ := flat3 l i _ HQ.out
                      have oq := RK.own _ (List.mem_of_getElem? HQ.out)
                      dsimp only at f2 f3 f4 oq
                      obtain ⟨ap, cp, rfl, xq, -, -, -, -⟩ := oq.slice
                      have O4 : OwnB W4 W0.heap.size (.slice aq d.length cq) d := own_off HO.out (w' := W4) (fun g' g1 g2 => p2.block g' g2 (by have := HSZ.out; omega))
                      have c0 : W4.cell? ⟨W1.heap.size, 0, none⟩ = some (.int .i64 x) := cell_of_row _ _ 0 _ _ _ p1
                      have c1 : W4.cell? ⟨W1.heap.size, 1, none⟩ = some (.slice aq d.length cq) := cell_of_row _ _ 1 _ _ _ p1
                      have v0 := cell_regrown c0
                      have v1 := cell_regrown c1
                      have v2 := cell_regrown (hcell _ _ f2)
                      have v3 := cell_regrown (hcell _ _ f3)
                      have v4 := cell_regrown (hcell _ _ f4)
                      have v5 := cell_regrown (show W4.cell? ⟨w3.heap.size + 1, 0, none⟩ = some (.slice (some ⟨ga, 0, none⟩) l.length ca) from cell_of_row _ _ 0 _ _ _ hal)
                      have v6 := cell_regrown (show W4.cell? ⟨bi, 0, none⟩ = some (.int .i64 i) from cell_of_row _ _ 0 _ _ _ hi4)
                      have t1 : ¬ (l.length : Int) ≤ (i : Int) := by omega
                      have XO := Lib.hid (own_at O4)
                      have XQ := Lib.hid xq
                      have OO := Lib.hid O4
                      have L4 := Lib.hid hL4
                      have C4 := Lib.hid hC0
                      have I4 := Lib.hid hi4
                      have T4 := Lib.hid ht4
                      have D4 := Lib.hid hd4
                      have Q4 := Lib.hid p1
                      have B4 := Lib.hid p2
                      have P3 := Lib.hid p3
                      have J3' := Lib.hid (show W4.heap[wS.heap.size]? = some (.deferred (some [])) from (p2.block _ l2 (by omega)).trans J3)
                      clear p1 p2 p3 p4 hW4 hLLP ho14 hL0 hC0 hi0 ht0 hd0 hL4 hi4 ht4 hd4 RK hal hcell f2 f3 f4 oq xq O4 c0 c1 J2 J3 l1 l2
                      gi_wp2
                      have t1 : ¬ (l.length : Int) ≤ (i : Int) := by omega
                      have t2 : decide ((l.length : Int) ≤ (i : Int)) = false := decide_eq_false t1
                      refine wpIn_round_quiet (by kernel_rfl) (by kernel_rfl) (by kernel_rfl) ?_
                      repeat (go_big_quiet_step (first
                        | (go_at_call 27; exact Calls.regrown_of (rec_same x aq ap d _ cq cp _ (XO.out.below (below_regrown _ _ _)) (XQ.out.below (below_regrown _ _ _)) rfl (by omega)))))
                      refine wpQuiet_nil ?_
                      intro W5 hW5
                      obtain ⟨⟨nq, osq⟩, hW5'⟩ := hW5
                      have b5 : Below W4.heap.size W4 W5 := by rw [hW5']; exact below_regrown _ _ _
                      clear hW5' v0 v1 v2 v3 v4 v5 v6 XO XQ
                      have bA : Below W5.heap.size W5 (W5.alloc (.cells #[.slice aq d.length cq] 31 (0, 0))) := below_alloc _ _
                      have b5A := Lib.hid (below_trans b5 bA)
                      have L5 := Lib.hid (L4.out.keep b5)
                      have LA := Lib.hid (L4.out.keep b5A.out)
                      have IA := Lib.hid ((b5A.out.block bi (heap_lt I4.out)).trans I4.out)
                      have TA := Lib.hid ((b5A.out.block bt1 (heap_lt T4.out)).trans T4.out)
                      have DA : Hid (∀ k : Nat, (fun k => (NB ≤ k ∧ k < n1) ∨ k = D0) k → k < (W5.alloc (.cells #[.slice aq d.length cq] 31 (0, 0))).heap.size ∧ (W5.alloc (.cells #[.slice aq d.length cq] 31 (0, 0))).heap[k]? = wT1.heap[k]?) := Lib.hid fun k hk => ⟨Nat.lt_of_lt_of_le (D4.out k hk).1 b5A.out.size, (b5A.out.block k (D4.out k hk).1).trans (D4.out k hk).2⟩
                      have OA := Lib.hid (OO.out.keep b5A.out)
                      have PA := Lib.hid ((b5A.out.block _ (heap_lt P3.out)).trans P3.out)
                      have JA := Lib.hid ((b5A.out.block _ (heap_lt J3'.out)).trans J3'.out)
                      have hq5 := (b5.block W1.heap.size (heap_lt Q4.out)).trans Q4.out
                      have c1 : W5.cell? ⟨W1.heap.size, 1, none⟩ = some (.slice aq d.length cq) := cell_of_row _ _ 1 _ _ _ hq5
                      have hk1 : W5.cell? ⟨kb + 1, 0, none⟩ = some (.pointer (some ⟨kb, 0, none⟩)) := cell_of_row _ _ 0 _ _ _ L5.out.kp
                      have CO := Lib.hid (come_one (xs := xs) (lo := w5.heap.size) (cell_of_row _ _ 0 _ _ _ (heap_alloc_new W5 (.cells #[.slice aq d.length cq] 31 (0, 0)))) (OA.out.base (show w5.heap.size ≤ W0.heap.size by have := LBI.out; have := HSZ.out; omega)) (by omega) FR.out)
                      have N1 := Lib.hid (show kb ≠ W5.heap.size from Nat.ne_of_lt (heap_lt L5.out.kept.box))
                      have N2 := Lib.hid (show lv.ownBlock ≠ some W5.heap.size from fun e => by obtain ⟨_, _, hc⟩ := rows_blk L5.out.kept.list e; exact Nat.lt_irrefl _ (heap_lt hc))
                      have N3 := Lib.hid (show w5.heap.size ≤ (W5.alloc (.cells #[.slice aq d.length cq] 31 (0, 0))).heap.size from Nat.le_trans LA.out.off.size (Nat.le_refl _))
                      have hP' : Hid (∀ k, PP k → k < W1.heap.size ∧ k < W0.heap.size) := Lib.hid fun k hk => by
                        have := (HPI.out k).1 hk
                        have := D0B.out
                        have := LBI.out
                        have := HSZ.out
                        omega
                      clear b5 bA hq5
                      gi_wp2
                      refine ⟨trivial, (in_round (keep_x kb w5.heap.size W5.heap.size 1 lv z xs [.slice aq d.length cq] _ LA.out.kept CO.out N1.out N2.out (by simp) N3.out LA.out.short)).mono ?_⟩
                      rintro e W6 ⟨rfl, lv', z', xs', hK, hB, -, hF, hS, hM, hF2⟩
                      obtain ⟨RD, i6, t6⟩ := turn_next (LL := wS.heap.size + 1) AP.out LA.out C4.out IA.out TA.out DA.out hP'.out LBI.out.1 (fun k hk hk' => B4.out.block k hk hk') B4.out.size b5A.out OA.out hK hB hF hS hM hF2 hTB.1
                      have PS := Past.of_keep LA.out.kept hB.size hF
                      have P6 := PS.block _ _ PA.out (fun _ _ e => by cases e) (fun _ _ e => by cases e)
                      have J6 := PS.block _ _ JA.out (fun _ _ e => by cases e) (fun _ _ e => by cases e)
                      have P7 := Lib.hid (show (W6.setCell ⟨bi, 0, none⟩ (.int .i64 ((i : Int) + 1))).heap[wS.heap.size + 1]? = some (.loop (lst lo .busy none)) from (Below.heap_setCell _ _ _ _ (by have := LBI.out; simp only [ne_eq]; omega)).trans P6)
                      have J7 := Lib.hid (show (W6.setCell ⟨bi, 0, none⟩ (.int .i64 ((i : Int) + 1))).heap[wS.heap.size]? = some (.deferred (some [])) from (Below.heap_setCell _ _ _ _ (by have := LBI.out; simp only [ne_eq]; omega)).trans J6)
                      have RDH := Lib.hid RD
                      have i7 : W6.cell? ⟨bi, 0, none⟩ = some (.int .i64 i) := cell_of_row _ _ 0 _ _ _ i6
                      have fi7 := frozen_of_row _ _ 0 _ _ i6
                      have t7 : W6.cell? ⟨bt1, 0, none⟩ = some (.int .i64 1) := cell_of_row _ _ 0 _ _ _ t6
                      have ne7 := hTB.1
                      clear hK hB hF hS hM hF2 RD i6 t6 PS P6 J6 c1 hk1 LA L5 IA TA DA OA CO N1 N2 N3
                      gi_wp2
                      exact roundTo_normal P7.out J7.out ⟨fun h => by omega, RDH.out⟩
                    · rintro e W2 (⟨rfl, W5, r1, ⟨r2, r3⟩, rfl, r5, r6⟩ | ⟨rfl, c, W5, r1, ⟨rfl, r2, r4, r3⟩, rfl, r5, r6⟩)
                      · exact ⟨W5, _, r3, rfl, r5, r6, .inl ⟨rfl, r2, rfl⟩⟩
                      · exact ⟨W5, _, r3, rfl, r5, r6, .inr ⟨rfl, r2, r4, rfl⟩⟩)
                  have EL := ES.out.on q3
                  have hgp : ∀ (W1 W2 : World), Gap ((loopW wS lo).heap.size + 4) ((loopW wS lo).heap.size + 7) W1 W2 → Off PM W1 W2 := fun W1 W2 hg => Off.of_gap hg (fun k k1 k2 => (HMI.out k).2 (by omega))
                  refine (each_it NB bN bS bO ao' cap' bs base seed 5 (wS.heap.size + 1)
                    (fun i W => (TurnI g w5 kb bi bt1 1 wT1 (fun k => (NB ≤ k ∧ k < n1) ∨ k = D0) PP i W ∧ (1 = (0 : Int) → i < 3)) ∧ W.heap[wS.heap.size + 1]? = some (.loop lo) ∧ W.heap[wS.heap.size]? = some (.deferred (some [])))
                    (fun W => (TurnI g w5 kb bi bt1 1 wT1 (fun k => (NB ≤ k ∧ k < n1) ∨ k = D0) PP 3 W ∧ 1 = (0 : Int)) ∧ W.heap[wS.heap.size + 1]? = some (.loop (lst lo .done (some (.exit 6)))) ∧ W.heap[wS.heap.size]? = some (.deferred (some [])))
                    (loopW wS lo) EL (by omega) h2 ?_ ?_ ?_ ?_).mono ?_
                  · rintro i W1 W2 ⟨⟨j1, j2⟩, j6, j7⟩ hg
                    have l1 := (Array.getElem?_eq_some_iff.1 j6).1
                    have l2 := (Array.getElem?_eq_some_iff.1 j7).1
                    exact ⟨⟨j1.move (hgp _ _ hg) (fun _ h => h) AP.out, j2⟩, (hg.block _ l1 (by omega)).trans j6, (hg.block _ l2 (by omega)).trans j7⟩
                  · rintro W1 W2 ⟨⟨j1, j2⟩, j6, j7⟩ hg
                    have l1 := (Array.getElem?_eq_some_iff.1 j6).1
                    have l2 := (Array.getElem?_eq_some_iff.1 j7).1
                    exact ⟨⟨j1.move (hgp _ _ hg) (fun _ h => h) AP.out, j2⟩, (hg.block _ l1 (by omega)).trans j6, (hg.block _ l2 (by omega)).trans j7⟩
                  · rintro i W0 W1 v hb1 hg hgo ⟨⟨j1, j2⟩, j6, j7⟩ hlt hu hO
                    have l1 := (Array.getElem?_eq_some_iff.1 j6).1
                    have l2 := (Array.getElem?_eq_some_iff.1 j7).1
                    have hil : i < l.length := by
                      rcases Nat.lt_or_ge i l.length with h | h
                      · exact h
                      · rcases ends_of OV.out LEN.out with ⟨h', _⟩ | ⟨_, h'⟩
                        · omega
                        · rcases Nat.lt_or_ge l.length i with h'' | h''
                          · exact (h'.2 (hg _ h'')).elim
                          · obtain rfl : i = l.length := by omega
                            exact (h'.2 hgo).elim
                    obtain ⟨⟨off, x, vq, d⟩, hq⟩ : ∃ q, l[i]? = some q := ⟨l[i], List.getElem?_eq_getElem hil⟩
                    obtain ⟨-, u1, u2, u3⟩ := TO.out i _ hq
                    dsimp only at u1 u2 u3
                    subst u1 u2 u3
                    obtain ⟨aq, cq, rfl, -, -, -, -, -⟩ := hO.slice
                    refine YieldAt.mono (HRound.out i _ _ vq _ aq cq W0 W1 hq j1 (hgp _ _ hu) j2 (by omega) hO ((hu.block _ l1 (by omega)).trans j6) ((hu.block _ l2 (by omega)).trans j7)) ?_
                    rintro e W2 ⟨W5, o, ⟨r1, r2, r3⟩, rfl, r4, r5, h⟩
                    have l5 := (Array.getElem?_eq_some_iff.1 r4).1
                    have hput : Off (fun k => k = wS.heap.size + 1) W5 (W5.putObj (wS.heap.size + 1) (.loop o)) := ⟨rfl, rfl, rfl, by simp, fun k _ hk => World.putObj_heap_other hk⟩
                    have T2 := r1.move hput (fun k hk => (HMI.out k).2 (by subst hk; omega)) AP.out
                    have HK : KeepE (loopW wS lo).heap.size ((loopW wS lo).heap.size + 7) ao' W1 (W5.putObj (wS.heap.size + 1) (.loop o)) := by
                      refine ⟨Nat.le_trans r2 hput.size, fun k k1 k2 k3 => ?_, fun g' o' e' k3 => ?_⟩
                      · exact (hput.block k (Nat.lt_of_lt_of_le k3 r2) (by omega)).trans (r3 k k3 ((HPI.out k).2 (.inr (by omega))) (by omega))
                      · have hgb := EL.gB g' o' e'
                        have hlt' : g' < n1 := EB.out g' o' e' (by have := hgo.1; omega)
                        exact (hput.block g' (Nat.lt_of_lt_of_le k3 r2) (by have := LBI.out; omega)).trans (r3 g' k3 ((HPI.out g').2 (.inl <| .inl ⟨hgb, hlt'⟩)) (by have := LBI.out; omega))
                    rcases h with ⟨rfl, hx, rfl⟩ | ⟨rfl, hx, hx3, rfl⟩
                    · exact .inl ⟨rfl, ⟨⟨T2, fun h => by have := hx h; have := j2 h; omega⟩, r4, r5⟩, HK⟩
                    · refine .inr ⟨rfl, ⟨⟨?_, hx⟩, r4, r5⟩, HK⟩
                      rw [hx3] at T2
                      exact T2
                  · exact ⟨⟨START.out, fun _ => by decide⟩, q1, q2⟩
                  · rintro e W' ⟨⟨v0, rfl⟩, h⟩
                    refine ⟨⟨v0, rfl⟩, range_or (fun Wx => ∃ N, TurnI g w5 kb bi bt1 1 wT1 (fun k => (NB ≤ k ∧ k < n1) ∨ k = D0) PP N Wx ∧ (N = l.length ∨ (1 = (0 : Int) ∧ N = 3)) ∧ Wx.heap[wS.heap.size]? = some (.deferred (some []))) ?_ ?_⟩
                    · rintro Wx ⟨N, hTI, hN, hD⟩
                      have HTI := Lib.hid hTI
                      have HDD := Lib.hid hD
                      have HN := Lib.hid hN
                      clear h hTI hD hN HRound START q1 q2 q3 q4 EL hgp hlo
                      obtain ⟨lv, z, xs, hL, hC, hi, ht, hd⟩ := HTI.out
                      have LX := Lib.hid hL
                      have DX := Lib.hid hd
                      have ci : Wx.cell? ⟨bi, 0, none⟩ = some (.int .i64 N) := cell_of_row _ _ 0 _ _ _ hi
                      have ct : Wx.cell? ⟨bt1, 0, none⟩ = some (.int .i64 1) := cell_of_row _ _ 0 _ _ _ ht
                      have cal : Wx.cell? ⟨w3.heap.size + 1, 0, none⟩ = some (.slice aa l.length ca) := cell_of_row _ _ 0 _ _ _ (HROW.out Wx hL.off).2
                      have hlow : Off (fun j => j = g) w5 Wx := hL.off
                      have BX := Lib.hid (show Below w.heap.size w Wx from hlow.below B5.out (fun k hk e => by have := GW.out; omega) B5.out.size)
                      clear hL hC hi ht hd hlow
                      obtain rfl : N = l.length := by rcases HN.out with h | h <;> omega
                      have bE := below_alloc Wx (.cells #[.int .i64 2] 3)
                      have LE := Lib.hid (LX.out.keep bE)
                      have KPE : (Wx.alloc (.cells #[.int .i64 2] 3)).cell? ⟨kb + 1, 0, none⟩ = some (.pointer (some ⟨kb, 0, none⟩)) := cell_of_row _ _ 0 _ _ _ LE.out.kp
                      have RE := Lib.hid ((bE.block w.heap.size (by have := GW.out; have := LX.out.off.size; have := GL.out; omega)).trans ((LX.out.off.block w.heap.size (heap_lt R5.out) (by have := GW.out; omega)).trans R5.out))
                      have DE1 := Lib.hid ((bE.block wS.heap.size (heap_lt HDD.out)).trans HDD.out)
                      have DE0 := Lib.hid ((bE.block D0 (DX.out D0 (.inr rfl)).1).trans ((DX.out D0 (.inr rfl)).2.trans HD0.out))
                      have BE := Lib.hid (below_trans BX.out bE)
                      have DD01 := Lib.hid (show D0 < wS.heap.size from by have := D0B.out; have := LBI.out; have := SS.out; have := HBI.out; have := BND.out; omega)
                      obtain ⟨alv, clv, hlv⟩ := row_slice LE.out.kept.list
                      subst hlv
                      clear bE
                      go_wp2_with fail
                      rw [rounds_succ]
                      go_wp2_with fail
                      refine (apart_x kb w5.heap.size alv xs.length clv z xs _ LE.out.kept rfl LE.out.short LE.out.off.size).mono ?_
                      rintro e wZ ⟨rfl, hbz⟩
                      have RZ := (hbz.b.block w.heap.size (heap_lt R5.out)).trans RE.out
                      have z0 := cell_of_row _ _ 0 _ _ _ RZ
                      have fz0 := frozen_of_row _ _ 0 _ _ RZ
                      have Z1 := hbz.nc _ _ DE1.out (fun _ _ _ e => by cases e)
                      have Z0 := hbz.nc _ _ DE0.out (fun _ _ _ e => by cases e)
                      have BZ := Lib.hid (show Below w.heap.size w (wZ.setCell ⟨w.heap.size, 0, none⟩ (.bool true)) from ((BE.out.trans (hbz.b.mono (Nat.le_of_lt (heap_lt R5.out)))).setCell (p := ⟨w.heap.size, 0, none⟩) (Nat.le_refl _) _))
                      have wne : w.heap.size < D0 := by have := D0B.out; have := BND.out; have := heap_lt R5.out; omega
                      have Y1 : (wZ.setCell ⟨w.heap.size, 0, none⟩ (.bool true)).heap[wS.heap.size]? = some (.deferred (some [])) := (Below.heap_setCell _ _ _ _ (by have := DD01.out; simp only [ne_eq]; omega)).trans Z1
                      have Y0 : (wZ.setCell ⟨w.heap.size, 0, none⟩ (.bool true)).heap[D0]? = some (.deferred (some [])) := (Below.heap_setCell _ _ _ _ (by simp only [ne_eq]; omega)).trans Z0
                      have YC : (wZ.setCell ⟨w.heap.size, 0, none⟩ (.bool true)).cell? ⟨w.heap.size, 0, none⟩ = some (.bool true) := World.cell?_setCell_same _ _ _ z0
                      have Y1H := Lib.hid Y1
                      have Y0H := Lib.hid Y0
                      have YCH := Lib.hid YC
                      clear Y1 Y0 YC Z1 Z0
                      go_wp2_with fail
                      refine noPanic_ret ?_
                      have l1 := heap_lt Y1H.out
                      have h0 : ((wZ.setCell ⟨w.heap.size, 0, none⟩ (.bool true)).putObj wS.heap.size (.deferred none)).heap[D0]? = some (.deferred (some [])) := (World.putObj_heap_other (by have := DD01.out; omega)).trans Y0H.out
                      have l0 := heap_lt h0
                      refine ⟨by simp, .inl ⟨_, _, rfl, run_takeDeferred Y1H.out, ?_⟩⟩
                      refine ⟨by simp, .inl ⟨_, _, rfl, run_takeDeferred h0, ?_⟩⟩
                      have hc1 := (World.cell?_of_block (a := ⟨w.heap.size, 0, none⟩) (show ((wZ.setCell ⟨w.heap.size, 0, none⟩ (.bool true)).putObj wS.heap.size (.deferred none)).heap[w.heap.size]? = (wZ.setCell ⟨w.heap.size, 0, none⟩ (.bool true)).heap[w.heap.size]? from World.putObj_heap_other (by have := DD01.out; omega))).trans YCH.out
                      have hc2 := (World.cell?_of_block (a := ⟨w.heap.size, 0, none⟩) (show (((wZ.setCell ⟨w.heap.size, 0, none⟩ (.bool true)).putObj wS.heap.size (.deferred none)).putObj D0 (.deferred none)).heap[w.heap.size]? = ((wZ.setCell ⟨w.heap.size, 0, none⟩ (.bool true)).putObj wS.heap.size (.deferred none)).heap[w.heap.size]? from World.putObj_heap_other (by omega))).trans hc1
                      have bb1 := But.below BZ.out (but_putObj _ wS.heap.size (.deferred none) l1) (by have := DD01.out; omega) BZ.out.size
                      have bb2 := But.below bb1 (but_putObj _ D0 (.deferred none) l0) (by omega) bb1.size
                      exact ⟨_, results_bool rfl _ _ w.heap.size (.bool true) rfl hc2, rfl, bb2⟩
                    · have hputS : ∀ (o : Loop), ∀ N, TurnI g w5 kb bi bt1 1 wT1 (fun k => (NB ≤ k ∧ k < n1) ∨ k = D0) PP N W' → W'.heap[wS.heap.size]? = some (.deferred (some [])) → (N = l.length ∨ (1 = (0 : Int) ∧ N = 3)) → ∃ N, TurnI g w5 kb bi bt1 1 wT1 (fun k => (NB ≤ k ∧ k < n1) ∨ k = D0) PP N (W'.putObj (wS.heap.size + 1) (.loop o)) ∧ (N = l.length ∨ (1 = (0 : Int) ∧ N = 3)) ∧ (W'.putObj (wS.heap.size + 1) (.loop o)).heap[wS.heap.size]? = some (.deferred (some [])) := fun o N hT hD hN => by
                        have hput : Off (fun k => k = wS.heap.size + 1) W' (W'.putObj (wS.heap.size + 1) (.loop o)) := ⟨rfl, rfl, rfl, by simp, fun k _ hk => World.putObj_heap_other hk⟩
                        exact ⟨N, hT.move hput (fun k hk => (HMI.out k).2 (by subst hk; omega)) AP.out, hN, (World.putObj_heap_other (by omega)).trans hD⟩
                      rcases h with ⟨i, hend, ⟨j1, j2⟩, j6, j7⟩ | ⟨⟨j1, j2⟩, j6, j7⟩
                      · refine .inl ⟨j6, hputS _ i j1 j7 (.inl ?_)⟩
                        rcases hend with ⟨k1, k2⟩ | ⟨k1, k2⟩ <;> rcases ends_of OV.out LEN.out with ⟨m1', m2'⟩ | ⟨m1', m2'⟩
                        · omega
                        · omega
                        · omega
                        · exact k2.uniq m2'
                      · exact .inr ⟨j6, hputS _ 3 j1 j7 (.inr ⟨j2, rfl⟩)⟩
              · have hputS : ∀ (o : Loop), ∀ N, TurnI g w5 kb bi bt 0 wT (fun k => NB ≤ k ∧ k < n1) PP N W' → W'.heap[wS.heap.size]? = some (.deferred (some [])) → (N = l.length ∨ (0 = (0 : Int) ∧ N = 3)) → ∃ N, TurnI g w5 kb bi bt 0 wT (fun k => NB ≤ k ∧ k < n1) PP N (W'.putObj (wS.heap.size + 1) (.loop o)) ∧ (N = l.length ∨ (0 = (0 : Int) ∧ N = 3)) ∧ (W'.putObj (wS.heap.size + 1) (.loop o)).heap[wS.heap.size]? = some (.deferred (some [])) := fun o N hT hD hN => by
                  have hput : Off (fun k => k = wS.heap.size + 1) W' (W'.putObj (wS.heap.size + 1) (.loop o)) := ⟨rfl, rfl, rfl, by simp, fun k _ hk => World.putObj_heap_other hk⟩
                  exact ⟨N, hT.move hput (fun k hk => (HMI.out k).2 (by subst hk; omega)) AP.out, hN, (World.putObj_heap_other (by omega)).trans hD⟩
                rcases h with ⟨i, hend, ⟨j1, j2⟩, j6, j7⟩ | ⟨⟨j1, j2⟩, j6, j7⟩
                · refine .inl ⟨j6, hputS _ i j1 j7 (.inl ?_)⟩
                  rcases hend with ⟨k1, k2⟩ | ⟨k1, k2⟩ <;> rcases ends_of OV.out LEN.out with ⟨m1', m2'⟩ | ⟨m1', m2'⟩
                  · omega
                  · omega
                  · omega
                  · exact k2.uniq m2'
                · exact .inr ⟨j6, hputS _ 3 j1 j7 (.inr ⟨j2, rfl⟩)⟩
          · have t1 : (k : Int) < (L.length : Int) := by omega
            have t2 : ¬ (k : Int) < 10 := by omega
            clear hx hx' hlt
            have HLL := Lib.hid hL
            clear hL
            go_wp2_with fail
            refine (scan_each (some ⟨g, 0, none⟩) bs _ cg base _ seed _ rfl (mine_front (M5.out.on HLL.out.below)) rfl (fun h => by cases h) (by omega)).mono ?_
            rintro e w7 ⟨bN, bS, bO, ao', cap', rfl, hE, hb7⟩
            have L7 := Lib.hid (HLL.out.keep hb7)
            have EE := Lib.hid hE
            have M7 := Lib.hid (M5.out.on L7.out.below)
            have EBN := Lib.hid (show bN < w7.heap.size ∧ bS < w7.heap.size ∧ bO < w7.heap.size from ⟨block_lt_of_cell hE.cN, block_lt_of_cell hE.cS, block_lt_of_cell hE.cO⟩)
            have EB := Lib.hid (show ∀ g' o', ao' = some ⟨g', o', none⟩ → 0 < bs.length → g' < w7.heap.size from fun g' o' e' h => by
              obtain ⟨g2, o2, e2, hc2⟩ := hE.bytes 0 h
              rw [e'] at e2
              injection e2 with e2
              injection e2 with e2 _
              subst e2
              exact block_lt_of_cell hc2)
            have BW7 := Lib.hid (below_trans B5.out L7.out.below)
            have N7 := Lib.hid (show w5.heap.size ≤ wr.heap.size ∧ wr.heap.size ≤ w7.heap.size from ⟨HLL.out.below.size, hb7.size⟩)
            have CL7 := Lib.hid (show Clear (fun j => wr.heap.size ≤ j) lv xs from HLL.out.old)
            have KB7 := Lib.hid (show kb + 1 < wr.heap.size from heap_lt HLL.out.kp)
            have hnil := eql_nilFunc
            unfold eachFn
            clear hE hb7 HLL
            go_wp2_with fail
            refine (back_but w1 g cg ao bs cap _ M7.out hcg hcm (fun w' hw' => (HB.out.below B1.out).but M7.out.below hw' M7.out.own)).mono ?_
            rintro e w8 ⟨rfl, hbu⟩
            have L8 := Lib.hid (L7.out.but hbu GL.out)
            have E8 := Lib.hid (EE.out.but hbu (show g < wr.heap.size by have := GL.out; have := N7.out; omega))
            have BW8 := Lib.hid (hbu.below BW7.out (Nat.le_of_lt GW.out) BW7.out.size)
            have S8 := Lib.hid (show w7.heap.size ≤ w8.heap.size from hbu.size)
            have n1 : Hid (∀ k, k < wr.heap.size → k ≠ g → w8.heap[k]? = w7.heap[k]?) := Lib.hid fun k hk hg => hbu.block k (by have := N7.out; omega) hg
            clear hbu L7 EE M7 BW7 hnil n1
            go_wp2_with fail
            refine wp_loop_rounds 3 ?_
            rw [rounds_succ]
            have D0B : Hid True := Lib.hid trivial
            obtain ⟨NB, hNB⟩ : ∃ NB, wr.heap.size = NB := ⟨_, rfl⟩
            obtain ⟨n1, hn1⟩ : ∃ n1, w7.heap.size = n1 := ⟨_, rfl⟩
            rw [hNB] at E8 KB7 CL7 N7
            rw [hn1] at N7 S8 EB EBN
            have LT := Lib.hid (L8.out.keep (below_alloc w8 (.cells #[.int .i64 0] 3)))
            have ET := Lib.hid (E8.out.on (below_alloc w8 (.cells #[.int .i64 0] 3)))
            have TB := Lib.hid (heap_alloc_new w8 (.cells #[.int .i64 0] 3))
            have BT := Lib.hid (below_trans BW8.out (below_alloc w8 (.cells #[.int .i64 0] 3)))
            have CLT : Hid (Clear (fun j => NB ≤ j ∧ j < n1) lv xs) := Lib.hid ⟨fun q hq h => CL7.out.1 q hq h.1, fun x hx q hq h => CL7.out.2 x hx q hq h.1⟩
            have sz8 : (w8.alloc (.cells #[.int .i64 0] 3)).heap.size = w8.heap.size + 1 := by show (w8.heap.push _).size = _; rw [Array.size_push]
            obtain ⟨wT, hwT⟩ : ∃ wT, w8.alloc (.cells #[.int .i64 0] 3) = wT := ⟨_, rfl⟩
            obtain ⟨bt, hbt⟩ : ∃ bt, w8.heap.size = bt := ⟨_, rfl⟩
            rw [hwT] at LT ET TB BT sz8
            rw [hbt] at TB sz8 S8
            rw [hwT, hbt]
            have BND := Lib.hid (show n1 ≤ bt ∧ w5.heap.size ≤ NB ∧ NB ≤ n1 ∧ bt < wT.heap.size from ⟨S8.out, N7.out.1, N7.out.2, by omega⟩)
            clear L8 E8 BW8 CL7 hNB hn1 hwT hbt sz8 S8 N7
            obtain ⟨wS, hwS⟩ : ∃ wS, wT.alloc (.cells #[.int .i64 0] 3) = wS := ⟨_, rfl⟩
            have bS := below_alloc wT (.cells #[.int .i64 0] 3)
            have hnS := heap_alloc_new wT (.cells #[.int .i64 0] 3)
            have szS : (wT.alloc (.cells #[.int .i64 0] 3)).heap.size = wT.heap.size + 1 := by show (wT.heap.push _).size = _; rw [Array.size_push]
            rw [hwS] at bS hnS szS
            obtain ⟨bi, hbi⟩ : ∃ bi, wT.heap.size = bi := ⟨_, rfl⟩
            rw [hbi] at hnS szS
            have HWS := Lib.hid hwS
            have HBI := Lib.hid hbi
            have LS := Lib.hid (LT.out.keep bS)
            have ES := Lib.hid (ET.out.on bS)
            have IS := Lib.hid hnS
            have TS := Lib.hid ((bS.block _ (heap_lt TB.out)).trans TB.out)
            have BS := Lib.hid (below_trans BT.out bS)
            have BTW := Lib.hid bS
            have SS := Lib.hid szS
            have t0 := cell_of_row _ _ 0 _ _ _ TB.out
            clear hwS hbi bS hnS szS
            go_wp2_with fail
            rw [HWS.out, HBI.out]
            clear HWS t0
            refine wpIn_wide.1 (range_in (n := 8) rfl (enters_of Try.func75 (by kernel_rfl) rfl) fun fn lo hlo => ?_)
            obtain ⟨q1, q2, q3, q4⟩ := loopW_at wS lo
            simp only [List.append_toArray, List.cons_append, List.nil_append]
            have hTB : bi ≠ bt ∧ bt < bi := by have := heap_lt TB.out; have := HBI.out; omega
            obtain ⟨PP, hPP⟩ : ∃ PP : Nat → Prop, PP = fun k => (NB ≤ k ∧ k < n1) ∨ (wS.heap.size ≤ k ∧ k < wS.heap.size + 9) := ⟨_, rfl⟩
            have PPI : ∀ k, PP k ↔ (NB ≤ k ∧ k < n1) ∨ (wS.heap.size ≤ k ∧ k < wS.heap.size + 9) := fun k => by rw [hPP]
            have HPI := Lib.hid PPI
            have p1 : ¬ PP kb := fun h => by have := (PPI kb).1 h; have := KB7.out; have := SS.out; have := HBI.out; have := heap_lt TB.out; have := BND.out; have := D0B.out; omega
            have p2 : ¬ PP (kb + 1) := fun h => by have := (PPI (kb + 1)).1 h; have := KB7.out; have := SS.out; have := HBI.out; have := heap_lt TB.out; have := BND.out; have := D0B.out; omega
            have p3 : ¬ PP bi := fun h => by have := (PPI bi).1 h; have := SS.out; have := HBI.out; have := heap_lt TB.out; have := BND.out; have := D0B.out; omega
            have p4 : ¬ PP bt := fun h => by have := (PPI bt).1 h; have := SS.out; have := HBI.out; have := heap_lt TB.out; have := BND.out; have := D0B.out; omega
            have p5 : ∀ k, k < w5.heap.size → ¬ PP k := fun k hk h => by have := (PPI k).1 h; have := SS.out; have := HBI.out; have := heap_lt TB.out; have := BND.out; have := D0B.out; omega
            obtain ⟨PM, hPM⟩ : ∃ PM : Nat → Prop, PM = fun k => wS.heap.size ≤ k ∧ k < wS.heap.size + 9 := ⟨_, rfl⟩
            have HMI : Hid (∀ k, PM k ↔ wS.heap.size ≤ k ∧ k < wS.heap.size + 9) := Lib.hid fun k => by rw [hPM]
            have AP := Lib.hid (show Apt w5 kb bi bt (fun k => NB ≤ k ∧ k < n1) PP PM from ⟨p1, p2, p3, p4, p5, fun k h => (PPI k).2 (.inr ((HMI.out k).1 h)), (fun k h => (PPI k).2 (.inl h)), (fun k h h' => by have := (HMI.out k).1 h'; have := SS.out; have := HBI.out; have := BND.out; have := D0B.out; omega)⟩)
            clear hPM
            have CLS : Clear PP lv xs := ⟨fun q hq h => by
              have h1 := CLT.out.1 q hq
              have h2 := LT.out.old.1 q hq
              have := (PPI q).1 h
              have := D0B.out
              have := BND.out
              have := SS.out
              have := HBI.out
              omega, fun x hx q hq h => by
              have h1 := CLT.out.2 x hx q hq
              have h2 := LT.out.old.2 x hx q hq
              have := (PPI q).1 h
              have := D0B.out
              have := BND.out
              have := SS.out
              have := HBI.out
              omega⟩
            have BTS := Lib.hid (show Below wT.heap.size wT (loopW wS lo) from below_trans BTW.out q3)
            have START : Hid (TurnI g w5 kb bi bt 0 wT (fun k => NB ≤ k ∧ k < n1) PP 0 (loopW wS lo)) := Lib.hid ⟨lv, z, xs, LS.out.keep q3, CLS, (q3.block bi (by have := SS.out; omega)).trans IS.out, (q3.block bt (heap_lt TS.out)).trans TS.out, (fun k h => ⟨Nat.lt_of_lt_of_le (show k < wT.heap.size by have := BND.out; have := D0B.out; omega) BTS.out.size, BTS.out.block k (by have := BND.out; have := D0B.out; omega)⟩)⟩
            have HROW : Hid (∀ W : World, Off (fun j => j = g) w5 W → RowAt 64 3 cells3 W w2.heap.size (.slice aa l.length ca) l ∧ W.heap[w3.heap.size + 1]? = some (.cells #[.slice aa l.length ca] 58 (0, 0))) := Lib.hid fun W h => ⟨ROW5.out.off fun g' h1 h2 => h.block g' h2 (by have := GL2.out; omega), (h.block _ (heap_lt A5.out) (by have := GL3.out; omega)).trans A5.out⟩
            have LBI := Lib.hid (show w5.heap.size ≤ bi ∧ bi < wS.heap.size ∧ n1 ≤ bi from by have := SS.out; have := HBI.out; have := heap_lt TB.out; have := BND.out; have := D0B.out; omega)
            clear CLS p1 p2 p3 p4 p5 hPP PPI
            have HRound : Hid (∀ (i : Nat) (off x : Int) (vq : Value) (d : List (BitVec 8)) (aq : Option Addr) (cq : Nat) (W0 W1 : World), l[i]? = some ⟨off, x, vq, d⟩ → TurnI g w5 kb bi bt 0 wT (fun k => NB ≤ k ∧ k < n1) PP i W0 → Off PM W0 W1 → (0 = (0 : Int) → i < 3) → wS.heap.size + 9 ≤ W0.heap.size → OwnB W1 W0.heap.size (.slice aq d.length cq) d →
                W1.heap[wS.heap.size + 1]? = some (.loop lo) → W1.heap[wS.heap.size]? = some (.deferred (some [])) →
                YieldAt Fence.wide 5 Try.prog (wS.heap.size + 1) #[.int .i64 off, .agg #[.int .i64 x, .slice aq d.length cq]] W1 fun e W2 => ∃ W5 o, RdTo g w5 kb bi bt 0 wT (fun k => NB ≤ k ∧ k < n1) PP (wS.heap.size + 1) i W1 W5 ∧ W2 = W5.putObj (wS.heap.size + 1) (.loop o) ∧ W2.heap[wS.heap.size + 1]? = some (.loop o) ∧ W2.heap[wS.heap.size]? = some (.deferred (some [])) ∧
                  ((e = .returned (.bool true) ∧ (0 = (0 : Int) → i + 1 ≠ 3) ∧ o = lo) ∨ (e = .returned (.bool false) ∧ 0 = (0 : Int) ∧ i + 1 = 3 ∧ o = lst lo .done (some (.exit 6))))) := Lib.hid (by
              intro i off x vq d aq cq W0 W1 hq hT hu hT3 hsz hO J2 J3
              have l1 := (Array.getElem?_eq_some_iff.1 J2).1
              have l2 := (Array.getElem?_eq_some_iff.1 J3).1
              have HQ := Lib.hid hq
              have HTI := Lib.hid hT
              have HU := Lib.hid hu
              have HO := Lib.hid hO
              have HT3 := Lib.hid hT3
              have HSZ := Lib.hid (show wS.heap.size + 9 ≤ W0.heap.size ∧ W0.heap.size ≤ W1.heap.size from ⟨hsz, hu.size⟩)
              have hil : i < l.length := (List.getElem?_eq_some_iff.1 hq).1
              have hdl : d.length ≤ 4096 := told_small TO.out hq
              clear hq hT hO hT3 hsz hu
              refine YieldAt.mono (round_in hlo trivial J2 J3 (by omega) rfl
                (RdN 0 i (RdTo g w5 kb bi bt 0 wT (fun k => NB ≤ k ∧ k < n1) PP (wS.heap.size + 1) i W1))
                (RdX 0 i (RdTo g w5 kb bi bt 0 wT (fun k => NB ≤ k ∧ k < n1) PP (wS.heap.size + 1) i W1)) ?_) ?_
              · have K2 := Lib.hid J2
                have K3 := Lib.hid J3
                clear l1 l2 J2 J3
                gi_wp2
                have J2 := K2.out
                have J3 := K3.out
                have l1 := (Array.getElem?_eq_some_iff.1 J2).1
                have l2 := (Array.getElem?_eq_some_iff.1 J3).1
                obtain ⟨p1, p2, p3, p4⟩ := round_box W1 #[.int .i64 x, .slice aq d.length cq] 34 (wS.heap.size + 1) (.loop (lst lo .busy none)) (by omega)
                refine ⟨p4, (below_alloc W1 _).block wS.heap.size (by omega), ?_⟩
                obtain ⟨W4, hW4⟩ : ∃ W4, (W1.alloc (.cells #[.int .i64 x, .slice aq d.length cq] 34)).putObj (wS.heap.size + 1) (.loop (lst lo .busy none)) = W4 := ⟨_, rfl⟩
                rw [hW4]
                rw [hW4] at p1 p2 p3
                have hLLP : PM (wS.heap.size + 1) := (HMI.out _).2 ⟨by omega, by omega⟩
                have ho14 : Off PM W0 W4 := HU.out.trans (Off.of_but p2 hLLP)
                obtain ⟨lv, z, xs, hL0, hC0, hi0, ht0, hd0⟩ := HTI.out
                have FR := Lib.hid (hL0.fresh HO.out (Nat.le_refl _))
                have hL4 := hL0.move (Q := PM) ⟨fun q hq h => hC0.1 q hq (AP.out.sub q h), fun x hx q hq h => hC0.2 x hx q hq (AP.out.sub q h)⟩ ho14 (fun h => AP.out.k0 (AP.out.sub _ h)) (fun h => AP.out.k1 (AP.out.sub _ h)) (fun j hj hp => (AP.out.low j hj (AP.out.sub _ hp)).elim)
                have hi4 := (ho14.block _ (heap_lt hi0) (fun h => AP.out.i (AP.out.sub _ h))).trans hi0
                have ht4 := (ho14.block _ (heap_lt ht0) (fun h => AP.out.t (AP.out.sub _ h))).trans ht0
                have hd4 : ∀ k : Nat, (fun k => NB ≤ k ∧ k < n1) k → k < W4.heap.size ∧ W4.heap[k]? = wT.heap[k]? := fun k hk => ⟨Nat.lt_of_lt_of_le (hd0 k hk).1 ho14.size, (ho14.block _ (hd0 k hk).1 (AP.out.dM k hk)).trans (hd0 k hk).2⟩
                obtain ⟨RK, hal⟩ := HROW.out W4 hL4.off
                obtain ⟨ga, cc, hv, -, -, hcell⟩ := row_at RK.row (by omega)
                injection hv with h1 _ h3
                subst h1 h3
                obtain ⟨f2, f3, f4⟩ := flat3 l i _ HQ.out
                have oq := RK.own _ (List.mem_of_getElem? HQ.out)
                dsimp only at f2 f3 f4 oq
                obtain ⟨ap, cp, rfl, xq, -, -, -, -⟩ := oq.slice
                have O4 : OwnB W4 W0.heap.size (.slice aq d.length cq) d := own_off HO.out (w' := W4) (fun g' g1 g2 => p2.block g' g2 (by have := HSZ.out; omega))
                have c0 : W4.cell? ⟨W1.heap.size, 0, none⟩ = some (.int .i64 x) := cell_of_row _ _ 0 _ _ _ p1
                have c1 : W4.cell? ⟨W1.heap.size, 1, none⟩ = some (.slice aq d.length cq) := cell_of_row _ _ 1 _ _ _ p1
                have v0 := cell_regrown c0
                have v1 := cell_regrown c1
                have v2 := cell_regrown (hcell _ _ f2)
                have v3 := cell_regrown (hcell _ _ f3)
                have v4 := cell_regrown (hcell _ _ f4)
                have v5 := cell_regrown (show W4.cell? ⟨w3.heap.size + 1, 0, none⟩ = some (.slice (some ⟨ga, 0, none⟩) l.length ca) from cell_of_row _ _ 0 _ _ _ hal)
                have v6 := cell_regrown (show W4.cell? ⟨bi, 0, none⟩ = some (.int .i64 i) from cell_of_row _ _ 0 _ _ _ hi4)
                have t1 : ¬ (l.length : Int) ≤ (i : Int) := by omega
                have XO := Lib.hid (own_at O4)
                have XQ := Lib.hid xq
                have OO := Lib.hid O4
                have L4 := Lib.hid hL4
                have C4 := Lib.hid hC0
                have I4 := Lib.hid hi4
                have T4 := Lib.hid ht4
                have D4 := Lib.hid hd4
                have Q4 := Lib.hid p1
                have B4 := Lib.hid p2
                have P3 := Lib.hid p3
                have J3' := Lib.hid (show W4.heap[wS.heap.size]? = some (.deferred (some [])) from (p2.block _ l2 (by omega)).trans J3)
                clear p1 p2 p3 p4 hW4 hLLP ho14 hL0 hC0 hi0 ht0 hd0 hL4 hi4 ht4 hd4 RK hal hcell f2 f3 f4 oq xq O4 c0 c1 J2 J3 l1 l2
                gi_wp2
                have t1 : ¬ (l.length : Int) ≤ (i : Int) := by omega
                have t2 : decide ((l.length : Int) ≤ (i : Int)) = false := decide_eq_false t1
                refine wpIn_round_quiet (by kernel_rfl) (by kernel_rfl) (by kernel_rfl) ?_
                repeat (go_big_quiet_step (first
                  | (go_at_call 27; exact Calls.regrown_of (rec_same x aq ap d _ cq cp _ (XO.out.below (below_regrown _ _ _)) (XQ.out.below (below_regrown _ _ _)) rfl (by omega)))))
                refine wpQuiet_nil ?_
                intro W5 hW5
                obtain ⟨⟨nq, osq⟩, hW5'⟩ := hW5
                have b5 : Below W4.heap.size W4 W5 := by rw [hW5']; exact below_regrown _ _ _
                clear hW5' v0 v1 v2 v3 v4 v5 v6 XO XQ
                have bA : Below W5.heap.size W5 (W5.alloc (.cells #[.slice aq d.length cq] 31 (0, 0))) := below_alloc _ _
                have b5A := Lib.hid (below_trans b5 bA)
                have L5 := Lib.hid (L4.out.keep b5)
                have LA := Lib.hid (L4.out.keep b5A.out)
                have IA := Lib.hid ((b5A.out.block bi (heap_lt I4.out)).trans I4.out)
                have TA := Lib.hid ((b5A.out.block bt (heap_lt T4.out)).trans T4.out)
                have DA : Hid (∀ k : Nat, (fun k => NB ≤ k ∧ k < n1) k → k < (W5.alloc (.cells #[.slice aq d.length cq] 31 (0, 0))).heap.size ∧ (W5.alloc (.cells #[.slice aq d.length cq] 31 (0, 0))).heap[k]? = wT.heap[k]?) := Lib.hid fun k hk => ⟨Nat.lt_of_lt_of_le (D4.out k hk).1 b5A.out.size, (b5A.out.block k (D4.out k hk).1).trans (D4.out k hk).2⟩
                have OA := Lib.hid (OO.out.keep b5A.out)
                have PA := Lib.hid ((b5A.out.block _ (heap_lt P3.out)).trans P3.out)
                have JA := Lib.hid ((b5A.out.block _ (heap_lt J3'.out)).trans J3'.out)
                have hq5 := (b5.block W1.heap.size (heap_lt Q4.out)).trans Q4.out
                have c1 : W5.cell? ⟨W1.heap.size, 1, none⟩ = some (.slice aq d.length cq) := cell_of_row _ _ 1 _ _ _ hq5
                have hk1 : W5.cell? ⟨kb + 1, 0, none⟩ = some (.pointer (some ⟨kb, 0, none⟩)) := cell_of_row _ _ 0 _ _ _ L5.out.kp
                have CO := Lib.hid (come_one (xs := xs) (lo := w5.heap.size) (cell_of_row _ _ 0 _ _ _ (heap_alloc_new W5 (.cells #[.slice aq d.length cq] 31 (0, 0)))) (OA.out.base (show w5.heap.size ≤ W0.heap.size by have := LBI.out; have := HSZ.out; omega)) (by omega) FR.out)
                have N1 := Lib.hid (show kb ≠ W5.heap.size from Nat.ne_of_lt (heap_lt L5.out.kept.box))
                have N2 := Lib.hid (show lv.ownBlock ≠ some W5.heap.size from fun e => by obtain ⟨_, _, hc⟩ := rows_blk L5.out.kept.list e; exact Nat.lt_irrefl _ (heap_lt hc))
                have N3 := Lib.hid (show w5.heap.size ≤ (W5.alloc (.cells #[.slice aq d.length cq] 31 (0, 0))).heap.size from Nat.le_trans LA.out.off.size (Nat.le_refl _))
                have hP' : Hid (∀ k, PP k → k < W1.heap.size ∧ k < W0.heap.size) := Lib.hid fun k hk => by
                  have := (HPI.out k).1 hk
                  have := D0B.out
                  have := LBI.out
                  have := HSZ.out
                  omega
                clear b5 bA hq5
                gi_wp2
                refine ⟨trivial, (in_round (keep_x kb w5.heap.size W5.heap.size 1 lv z xs [.slice aq d.length cq] _ LA.out.kept CO.out N1.out N2.out (by simp) N3.out LA.out.short)).mono ?_⟩
                rintro e W6 ⟨rfl, lv', z', xs', hK, hB, -, hF, hS, hM, hF2⟩
                obtain ⟨RD, i6, t6⟩ := turn_next (LL := wS.heap.size + 1) AP.out LA.out C4.out IA.out TA.out DA.out hP'.out LBI.out.1 (fun k hk hk' => B4.out.block k hk hk') B4.out.size b5A.out OA.out hK hB hF hS hM hF2 hTB.1
                have PS := Past.of_keep LA.out.kept hB.size hF
                have P6 := PS.block _ _ PA.out (fun _ _ e => by cases e) (fun _ _ e => by cases e)
                have J6 := PS.block _ _ JA.out (fun _ _ e => by cases e) (fun _ _ e => by cases e)
                have P7 := Lib.hid (show (W6.setCell ⟨bi, 0, none⟩ (.int .i64 ((i : Int) + 1))).heap[wS.heap.size + 1]? = some (.loop (lst lo .busy none)) from (Below.heap_setCell _ _ _ _ (by have := LBI.out; simp only [ne_eq]; omega)).trans P6)
                have J7 := Lib.hid (show (W6.setCell ⟨bi, 0, none⟩ (.int .i64 ((i : Int) + 1))).heap[wS.heap.size]? = some (.deferred (some [])) from (Below.heap_setCell _ _ _ _ (by have := LBI.out; simp only [ne_eq]; omega)).trans J6)
                have RDH := Lib.hid RD
                have i7 : W6.cell? ⟨bi, 0, none⟩ = some (.int .i64 i) := cell_of_row _ _ 0 _ _ _ i6
                have fi7 := frozen_of_row _ _ 0 _ _ i6
                have t7 : W6.cell? ⟨bt, 0, none⟩ = some (.int .i64 0) := cell_of_row _ _ 0 _ _ _ t6
                have ne7 := hTB.1
                clear hK hB hF hS hM hF2 RD i6 t6 PS P6 J6 c1 hk1 LA L5 IA TA DA OA CO N1 N2 N3
                by_cases h3 : i + 1 = 3
                · have H3 := Lib.hid h3
                  have b1 : ((i : Int) + 1 == 3) = true := beq_iff_eq.2 (by omega)
                  clear h3
                  gi_wp2
                  exact roundTo_exit P7.out J7.out ⟨rfl, rfl, H3.out, RDH.out⟩
                · have H3 := Lib.hid h3
                  have b1 : ((i : Int) + 1 == 3) = false := beq_false_of_ne (by omega)
                  clear h3
                  gi_wp2
                  exact roundTo_normal P7.out J7.out ⟨fun _ => H3.out, RDH.out⟩
              · rintro e W2 (⟨rfl, W5, r1, ⟨r2, r3⟩, rfl, r5, r6⟩ | ⟨rfl, c, W5, r1, ⟨rfl, r2, r4, r3⟩, rfl, r5, r6⟩)
                · exact ⟨W5, _, r3, rfl, r5, r6, .inl ⟨rfl, r2, rfl⟩⟩
                · exact ⟨W5, _, r3, rfl, r5, r6, .inr ⟨rfl, r2, r4, rfl⟩⟩)
            have EL := ES.out.on q3
            have hgp : ∀ (W1 W2 : World), Gap ((loopW wS lo).heap.size + 4) ((loopW wS lo).heap.size + 7) W1 W2 → Off PM W1 W2 := fun W1 W2 hg => Off.of_gap hg (fun k k1 k2 => (HMI.out k).2 (by omega))
            refine (each_it NB bN bS bO ao' cap' bs base seed 5 (wS.heap.size + 1)
              (fun i W => (TurnI g w5 kb bi bt 0 wT (fun k => NB ≤ k ∧ k < n1) PP i W ∧ (0 = (0 : Int) → i < 3)) ∧ W.heap[wS.heap.size + 1]? = some (.loop lo) ∧ W.heap[wS.heap.size]? = some (.deferred (some [])))
              (fun W => (TurnI g w5 kb bi bt 0 wT (fun k => NB ≤ k ∧ k < n1) PP 3 W ∧ 0 = (0 : Int)) ∧ W.heap[wS.heap.size + 1]? = some (.loop (lst lo .done (some (.exit 6)))) ∧ W.heap[wS.heap.size]? = some (.deferred (some [])))
              (loopW wS lo) EL (by omega) h2 ?_ ?_ ?_ ?_).mono ?_
            · rintro i W1 W2 ⟨⟨j1, j2⟩, j6, j7⟩ hg
              have l1 := (Array.getElem?_eq_some_iff.1 j6).1
              have l2 := (Array.getElem?_eq_some_iff.1 j7).1
              exact ⟨⟨j1.move (hgp _ _ hg) (fun _ h => h) AP.out, j2⟩, (hg.block _ l1 (by omega)).trans j6, (hg.block _ l2 (by omega)).trans j7⟩
            · rintro W1 W2 ⟨⟨j1, j2⟩, j6, j7⟩ hg
              have l1 := (Array.getElem?_eq_some_iff.1 j6).1
              have l2 := (Array.getElem?_eq_some_iff.1 j7).1
              exact ⟨⟨j1.move (hgp _ _ hg) (fun _ h => h) AP.out, j2⟩, (hg.block _ l1 (by omega)).trans j6, (hg.block _ l2 (by omega)).trans j7⟩
            · rintro i W0 W1 v hb1 hg hgo ⟨⟨j1, j2⟩, j6, j7⟩ hlt hu hO
              have l1 := (Array.getElem?_eq_some_iff.1 j6).1
              have l2 := (Array.getElem?_eq_some_iff.1 j7).1
              have hil : i < l.length := by
                rcases Nat.lt_or_ge i l.length with h | h
                · exact h
                · rcases ends_of OV.out LEN.out with ⟨h', _⟩ | ⟨_, h'⟩
                  · omega
                  · rcases Nat.lt_or_ge l.length i with h'' | h''
                    · exact (h'.2 (hg _ h'')).elim
                    · obtain rfl : i = l.length := by omega
                      exact (h'.2 hgo).elim
              obtain ⟨⟨off, x, vq, d⟩, hq⟩ : ∃ q, l[i]? = some q := ⟨l[i], List.getElem?_eq_getElem hil⟩
              obtain ⟨-, u1, u2, u3⟩ := TO.out i _ hq
              dsimp only at u1 u2 u3
              subst u1 u2 u3
              obtain ⟨aq, cq, rfl, -, -, -, -, -⟩ := hO.slice
              refine YieldAt.mono (HRound.out i _ _ vq _ aq cq W0 W1 hq j1 (hgp _ _ hu) j2 (by omega) hO ((hu.block _ l1 (by omega)).trans j6) ((hu.block _ l2 (by omega)).trans j7)) ?_
              rintro e W2 ⟨W5, o, ⟨r1, r2, r3⟩, rfl, r4, r5, h⟩
              have l5 := (Array.getElem?_eq_some_iff.1 r4).1
              have hput : Off (fun k => k = wS.heap.size + 1) W5 (W5.putObj (wS.heap.size + 1) (.loop o)) := ⟨rfl, rfl, rfl, by simp, fun k _ hk => World.putObj_heap_other hk⟩
              have T2 := r1.move hput (fun k hk => (HMI.out k).2 (by subst hk; omega)) AP.out
              have HK : KeepE (loopW wS lo).heap.size ((loopW wS lo).heap.size + 7) ao' W1 (W5.putObj (wS.heap.size + 1) (.loop o)) := by
                refine ⟨Nat.le_trans r2 hput.size, fun k k1 k2 k3 => ?_, fun g' o' e' k3 => ?_⟩
                · exact (hput.block k (Nat.lt_of_lt_of_le k3 r2) (by omega)).trans (r3 k k3 ((HPI.out k).2 (.inr (by omega))) (by omega))
                · have hgb := EL.gB g' o' e'
                  have hlt' : g' < n1 := EB.out g' o' e' (by have := hgo.1; omega)
                  exact (hput.block g' (Nat.lt_of_lt_of_le k3 r2) (by have := LBI.out; omega)).trans (r3 g' k3 ((HPI.out g').2 (.inl ⟨hgb, hlt'⟩)) (by have := LBI.out; omega))
              rcases h with ⟨rfl, hx, rfl⟩ | ⟨rfl, hx, hx3, rfl⟩
              · exact .inl ⟨rfl, ⟨⟨T2, fun h => by have := hx h; have := j2 h; omega⟩, r4, r5⟩, HK⟩
              · refine .inr ⟨rfl, ⟨⟨?_, hx⟩, r4, r5⟩, HK⟩
                rw [hx3] at T2
                exact T2
            · exact ⟨⟨START.out, fun _ => by decide⟩, q1, q2⟩
            · rintro e W' ⟨⟨v0, rfl⟩, h⟩
              refine ⟨⟨v0, rfl⟩, range_or (fun Wx => ∃ N, TurnI g w5 kb bi bt 0 wT (fun k => NB ≤ k ∧ k < n1) PP N Wx ∧ (N = l.length ∨ (0 = (0 : Int) ∧ N = 3)) ∧ Wx.heap[wS.heap.size]? = some (.deferred (some []))) ?_ ?_⟩
              · rintro Wx ⟨N, hTI, hN, hD⟩
                have HTI := Lib.hid hTI
                have HDD := Lib.hid hD
                have HN := Lib.hid hN
                clear h hTI hD hN HRound START q1 q2 q3 q4 EL hgp hlo
                obtain ⟨lv, z, xs, hL, hC, hi, ht, hd⟩ := HTI.out
                have LX := Lib.hid hL
                have DX := Lib.hid hd
                have CX := Lib.hid hC
                have ci : Wx.cell? ⟨bi, 0, none⟩ = some (.int .i64 N) := cell_of_row _ _ 0 _ _ _ hi
                have ct : Wx.cell? ⟨bt, 0, none⟩ = some (.int .i64 0) := cell_of_row _ _ 0 _ _ _ ht
                have cal : Wx.cell? ⟨w3.heap.size + 1, 0, none⟩ = some (.slice aa l.length ca) := cell_of_row _ _ 0 _ _ _ (HROW.out Wx hL.off).2
                have hlow : Off (fun j => j = g) w5 Wx := hL.off
                have BX := Lib.hid (show Below w.heap.size w Wx from hlow.below B5.out (fun k hk e => by have := GW.out; omega) B5.out.size)
                clear hL hC hi ht hd hlow
                rcases (show N = l.length ∨ (N = 3 ∧ ¬ N = l.length) from by rcases HN.out with h | h <;> omega) with hN | ⟨hN, hN'⟩
                · subst hN
                  go_wp2_with fail
                  have bX := below_alloc Wx (.cells #[.int .i64 1] 3)
                  have szX : (Wx.alloc (.cells #[.int .i64 1] 3)).heap.size = Wx.heap.size + 1 := by show (Wx.heap.push _).size = _; rw [Array.size_push]
                  have LT := Lib.hid (LX.out.keep bX)
                  have ET := Lib.hid ((ET.out.same EBN.out.1 EBN.out.2.1 EBN.out.2.2 EB.out (fun k h1 h2 => (DX.out k ⟨h1, h2⟩).2)).on bX)
                  have TB := Lib.hid (heap_alloc_new Wx (.cells #[.int .i64 1] 3))
                  have BT := Lib.hid (below_trans BX.out bX)
                  have D0X := (bX.block wS.heap.size (heap_lt HDD.out)).trans HDD.out
                  have CLT : Hid (Clear (fun j => (NB ≤ j ∧ j < n1) ∨ j = wS.heap.size) lv xs) := Lib.hid ⟨fun q hq h => CX.out.1 q hq ((HPI.out q).2 (by omega)), fun x hx q hq h => CX.out.2 x hx q hq ((HPI.out q).2 (by omega))⟩
                  obtain ⟨wT1, hwT1⟩ : ∃ wT1, Wx.alloc (.cells #[.int .i64 1] 3) = wT1 := ⟨_, rfl⟩
                  obtain ⟨bt1, hbt1⟩ : ∃ bt1, Wx.heap.size = bt1 := ⟨_, rfl⟩
                  obtain ⟨D0, hD0⟩ : ∃ D0, wS.heap.size = D0 := ⟨_, rfl⟩
                  have D0B := Lib.hid (show n1 ≤ D0 ∧ D0 < bt1 from by have := LBI.out; have := heap_lt HDD.out; omega)
                  rw [hwT1] at LT ET TB BT szX D0X
                  rw [hbt1] at TB szX
                  rw [hD0] at CLT D0X
                  rw [hwT1, hbt1, hD0]
                  have HD0 := Lib.hid D0X
                  have BND := Lib.hid (show n1 ≤ bt1 ∧ w5.heap.size ≤ NB ∧ NB ≤ n1 ∧ bt1 < wT1.heap.size from by have := BND.out; have := D0B.out; omega)
                  clear bX szX LX DX CX HDD hwT1 hbt1 hD0 D0X BX HTI HN ci ct cal
                  rw [rounds_succ]
                  obtain ⟨wS, hwS⟩ : ∃ wS, wT1.alloc (.cells #[.int .i64 0] 3) = wS := ⟨_, rfl⟩
                  have bS := below_alloc wT1 (.cells #[.int .i64 0] 3)
                  have hnS := heap_alloc_new wT1 (.cells #[.int .i64 0] 3)
                  have szS : (wT1.alloc (.cells #[.int .i64 0] 3)).heap.size = wT1.heap.size + 1 := by show (wT1.heap.push _).size = _; rw [Array.size_push]
                  rw [hwS] at bS hnS szS
                  obtain ⟨bi, hbi⟩ : ∃ bi, wT1.heap.size = bi := ⟨_, rfl⟩
                  rw [hbi] at hnS szS
                  have HWS := Lib.hid hwS
                  have HBI := Lib.hid hbi
                  have LS := Lib.hid (LT.out.keep bS)
                  have ES := Lib.hid (ET.out.on bS)
                  have IS := Lib.hid hnS
                  have TS := Lib.hid ((bS.block _ (heap_lt TB.out)).trans TB.out)
                  have BS := Lib.hid (below_trans BT.out bS)
                  have BTW := Lib.hid bS
                  have SS := Lib.hid szS
                  have t0 := cell_of_row _ _ 0 _ _ _ TB.out
                  clear hwS hbi bS hnS szS
                  go_wp2_with fail
                  rw [HWS.out, HBI.out]
                  clear HWS t0
                  refine wpIn_wide.1 (range_in (n := 8) rfl (enters_of Try.func75 (by kernel_rfl) rfl) fun fn lo hlo => ?_)
                  obtain ⟨q1, q2, q3, q4⟩ := loopW_at wS lo
                  simp only [List.append_toArray, List.cons_append, List.nil_append]
                  have hTB : bi ≠ bt1 ∧ bt1 < bi := by have := heap_lt TB.out; have := HBI.out; omega
                  obtain ⟨PP, hPP⟩ : ∃ PP : Nat → Prop, PP = fun k => ((NB ≤ k ∧ k < n1) ∨ k = D0) ∨ (wS.heap.size ≤ k ∧ k < wS.heap.size + 9) := ⟨_, rfl⟩
                  have PPI : ∀ k, PP k ↔ ((NB ≤ k ∧ k < n1) ∨ k = D0) ∨ (wS.heap.size ≤ k ∧ k < wS.heap.size + 9) := fun k => by rw [hPP]
                  have HPI := Lib.hid PPI
                  have p1 : ¬ PP kb := fun h => by have := (PPI kb).1 h; have := KB7.out; have := SS.out; have := HBI.out; have := heap_lt TB.out; have := BND.out; have := D0B.out; omega
                  have p2 : ¬ PP (kb + 1) := fun h => by have := (PPI (kb + 1)).1 h; have := KB7.out; have := SS.out; have := HBI.out; have := heap_lt TB.out; have := BND.out; have := D0B.out; omega
                  have p3 : ¬ PP bi := fun h => by have := (PPI bi).1 h; have := SS.out; have := HBI.out; have := heap_lt TB.out; have := BND.out; have := D0B.out; omega
                  have p4 : ¬ PP bt1 := fun h => by have := (PPI bt1).1 h; have := SS.out; have := HBI.out; have := heap_lt TB.out; have := BND.out; have := D0B.out; omega
                  have p5 : ∀ k, k < w5.heap.size → ¬ PP k := fun k hk h => by have := (PPI k).1 h; have := SS.out; have := HBI.out; have := heap_lt TB.out; have := BND.out; have := D0B.out; omega
                  obtain ⟨PM, hPM⟩ : ∃ PM : Nat → Prop, PM = fun k => wS.heap.size ≤ k ∧ k < wS.heap.size + 9 := ⟨_, rfl⟩
                  have HMI : Hid (∀ k, PM k ↔ wS.heap.size ≤ k ∧ k < wS.heap.size + 9) := Lib.hid fun k => by rw [hPM]
                  have AP := Lib.hid (show Apt w5 kb bi bt1 (fun k => (NB ≤ k ∧ k < n1) ∨ k = D0) PP PM from ⟨p1, p2, p3, p4, p5, fun k h => (PPI k).2 (.inr ((HMI.out k).1 h)), (fun k h => (PPI k).2 (.inl h)), (fun k h h' => by have := (HMI.out k).1 h'; have := SS.out; have := HBI.out; have := BND.out; have := D0B.out; omega)⟩)
                  clear hPM
                  have CLS : Clear PP lv xs := ⟨fun q hq h => by
                    have h1 := CLT.out.1 q hq
                    have h2 := LT.out.old.1 q hq
                    have := (PPI q).1 h
                    have := D0B.out
                    have := BND.out
                    have := SS.out
                    have := HBI.out
                    omega, fun x hx q hq h => by
                    have h1 := CLT.out.2 x hx q hq
                    have h2 := LT.out.old.2 x hx q hq
                    have := (PPI q).1 h
                    have := D0B.out
                    have := BND.out
                    have := SS.out
                    have := HBI.out
                    omega⟩
                  have BTS := Lib.hid (show Below wT1.heap.size wT1 (loopW wS lo) from below_trans BTW.out q3)
                  have START : Hid (TurnI g w5 kb bi bt1 1 wT1 (fun k => (NB ≤ k ∧ k < n1) ∨ k = D0) PP 0 (loopW wS lo)) := Lib.hid ⟨lv, z, xs, LS.out.keep q3, CLS, (q3.block bi (by have := SS.out; omega)).trans IS.out, (q3.block bt1 (heap_lt TS.out)).trans TS.out, (fun k h => ⟨Nat.lt_of_lt_of_le (show k < wT1.heap.size by have := BND.out; have := D0B.out; omega) BTS.out.size, BTS.out.block k (by have := BND.out; have := D0B.out; omega)⟩)⟩
                  have HROW : Hid (∀ W : World, Off (fun j => j = g) w5 W → RowAt 64 3 cells3 W w2.heap.size (.slice aa l.length ca) l ∧ W.heap[w3.heap.size + 1]? = some (.cells #[.slice aa l.length ca] 58 (0, 0))) := Lib.hid fun W h => ⟨ROW5.out.off fun g' h1 h2 => h.block g' h2 (by have := GL2.out; omega), (h.block _ (heap_lt A5.out) (by have := GL3.out; omega)).trans A5.out⟩
                  have LBI := Lib.hid (show w5.heap.size ≤ bi ∧ bi < wS.heap.size ∧ n1 ≤ bi from by have := SS.out; have := HBI.out; have := heap_lt TB.out; have := BND.out; have := D0B.out; omega)
                  clear CLS p1 p2 p3 p4 p5 hPP PPI
                  have HRound : Hid (∀ (i : Nat) (off x : Int) (vq : Value) (d : List (BitVec 8)) (aq : Option Addr) (cq : Nat) (W0 W1 : World), l[i]? = some ⟨off, x, vq, d⟩ → TurnI g w5 kb bi bt1 1 wT1 (fun k => (NB ≤ k ∧ k < n1) ∨ k = D0) PP i W0 → Off PM W0 W1 → (1 = (0 : Int) → i < 3) → wS.heap.size + 9 ≤ W0.heap.size → OwnB W1 W0.heap.size (.slice aq d.length cq) d →
                      W1.heap[wS.heap.size + 1]? = some (.loop lo) → W1.heap[wS.heap.size]? = some (.deferred (some [])) →
                      YieldAt Fence.wide 5 Try.prog (wS.heap.size + 1) #[.int .i64 off, .agg #[.int .i64 x, .slice aq d.length cq]] W1 fun e W2 => ∃ W5 o, RdTo g w5 kb bi bt1 1 wT1 (fun k => (NB ≤ k ∧ k < n1) ∨ k = D0) PP (wS.heap.size + 1) i W1 W5 ∧ W2 = W5.putObj (wS.heap.size + 1) (.loop o) ∧ W2.heap[wS.heap.size + 1]? = some (.loop o) ∧ W2.heap[wS.heap.size]? = some (.deferred (some [])) ∧
                        ((e = .returned (.bool true) ∧ (1 = (0 : Int) → i + 1 ≠ 3) ∧ o = lo) ∨ (e = .returned (.bool false) ∧ 1 = (0 : Int) ∧ i + 1 = 3 ∧ o = lst lo .done (some (.exit 6))))) := Lib.hid (by
                    intro i off x vq d aq cq W0 W1 hq hT hu hT3 hsz hO J2 J3
                    have l1 := (Array.getElem?_eq_some_iff.1 J2).1
                    have l2 := (Array.getElem?_eq_some_iff.1 J3).1
                    have HQ := Lib.hid hq
                    have HTI := Lib.hid hT
                    have HU := Lib.hid hu
                    have HO := Lib.hid hO
                    have HT3 := Lib.hid hT3
                    have HSZ := Lib.hid (show wS.heap.size + 9 ≤ W0.heap.size ∧ W0.heap.size ≤ W1.heap.size from ⟨hsz, hu.size⟩)
                    have hil : i < l.length := (List.getElem?_eq_some_iff.1 hq).1
                    have hdl : d.length ≤ 4096 := told_small TO.out hq
                    clear hq hT hO hT3 hsz hu
                    refine YieldAt.mono (round_in hlo trivial J2 J3 (by omega) rfl
                      (RdN 1 i (RdTo g w5 kb bi bt1 1 wT1 (fun k => (NB ≤ k ∧ k < n1) ∨ k = D0) PP (wS.heap.size + 1) i W1))
                      (RdX 1 i (RdTo g w5 kb bi bt1 1 wT1 (fun k => (NB ≤ k ∧ k < n1) ∨ k = D0) PP (wS.heap.size + 1) i W1)) ?_) ?_
                    · have K2 := Lib.hid J2
                      have K3 := Lib.hid J3
                      clear l1 l2 J2 J3
                      gi_wp2
                      have J2 := K2.out
                      have J3 := K3.out
                      have l1 := (Array.getElem?_eq_some_iff.1 J2).1
                      have l2 := (Array.getElem?_eq_some_iff.1 J3).1
                      obtain ⟨p1, p2, p3, p4⟩ := round_box W1 #[.int .i64 x, .slice aq d.length cq] 34 (wS.heap.size + 1) (.loop (lst lo .busy none)) (by omega)
                      refine ⟨p4, (below_alloc W1 _).block wS.heap.size (by omega), ?_⟩
                      obtain ⟨W4, hW4⟩ : ∃ W4, (W1.alloc (.cells #[.int .i64 x, .slice aq d.length cq] 34)).putObj (wS.heap.size + 1) (.loop (lst lo .busy none)) = W4 := ⟨_, rfl⟩
                      rw [hW4]
                      rw [hW4] at p1 p2 p3
                      have hLLP : PM (wS.heap.size + 1) := (HMI.out _).2 ⟨by omega, by omega⟩
                      have ho14 : Off PM W0 W4 := HU.out.trans (Off.of_but p2 hLLP)
                      obtain ⟨lv, z, xs, hL0, hC0, hi0, ht0, hd0⟩ := HTI.out
                      have FR := Lib.hid (hL0.fresh HO.out (Nat.le_refl _))
                      have hL4 := hL0.move (Q := PM) ⟨fun q hq h => hC0.1 q hq (AP.out.sub q h), fun x hx q hq h => hC0.2 x hx q hq (AP.out.sub q h)⟩ ho14 (fun h => AP.out.k0 (AP.out.sub _ h)) (fun h => AP.out.k1 (AP.out.sub _ h)) (fun j hj hp => (AP.out.low j hj (AP.out.sub _ hp)).elim)
                      have hi4 := (ho14.block _ (heap_lt hi0) (fun h => AP.out.i (AP.out.sub _ h))).trans hi0
                      have ht4 := (ho14.block _ (heap_lt ht0) (fun h => AP.out.t (AP.out.sub _ h))).trans ht0
                      have hd4 : ∀ k : Nat, (fun k => (NB ≤ k ∧ k < n1) ∨ k = D0) k → k < W4.heap.size ∧ W4.heap[k]? = wT1.heap[k]? := fun k hk => ⟨Nat.lt_of_lt_of_le (hd0 k hk).1 ho14.size, (ho14.block _ (hd0 k hk).1 (AP.out.dM k hk)).trans (hd0 k hk).2⟩
                      obtain ⟨RK, hal⟩ := HROW.out W4 hL4.off
                      obtain ⟨ga, cc, hv, -, -, hcell⟩ := row_at RK.row (by omega)
                      injection hv with h1 _ h3
                      subst h1 h3
                      obtain ⟨f2, f3, f4⟩ := flat3 l i _ HQ.out
                      have oq := RK.own _ (List.mem_of_getElem? HQ.out)
                      dsimp only at f2 f3 f4 oq
                      obtain ⟨ap, cp, rfl, xq, -, -, -, -⟩ := oq.slice
                      have O4 : OwnB W4 W0.heap.size (.slice aq d.length cq) d := own_off HO.out (w' := W4) (fun g' g1 g2 => p2.block g' g2 (by have := HSZ.out; omega))
                      have c0 : W4.cell? ⟨W1.heap.size, 0, none⟩ = some (.int .i64 x) := cell_of_row _ _ 0 _ _ _ p1
                      have c1 : W4.cell? ⟨W1.heap.size, 1, none⟩ = some (.slice aq d.length cq) := cell_of_row _ _ 1 _ _ _ p1
                      have v0 := cell_regrown c0
                      have v1 := cell_regrown c1
                      have v2 := cell_regrown (hcell _ _ f2)
                      have v3 := cell_regrown (hcell _ _ f3)
                      have v4 := cell_regrown (hcell _ _ f4)
                      have v5 := cell_regrown (show W4.cell? ⟨w3.heap.size + 1, 0, none⟩ = some (.slice (some ⟨ga, 0, none⟩) l.length ca) from cell_of_row _ _ 0 _ _ _ hal)
                      have v6 := cell_regrown (show W4.cell? ⟨bi, 0, none⟩ = some (.int .i64 i) from cell_of_row _ _ 0 _ _ _ hi4)
                      have t1 : ¬ (l.length : Int) ≤ (i : Int) := by omega
                      have XO := Lib.hid (own_at O4)
                      have XQ := Lib.hid xq
                      have OO := Lib.hid O4
                      have L4 := Lib.hid hL4
                      have C4 := Lib.hid hC0
                      have I4 := Lib.hid hi4
                      have T4 := Lib.hid ht4
                      have D4 := Lib.hid hd4
                      have Q4 := Lib.hid p1
                      have B4 := Lib.hid p2
                      have P3 := Lib.hid p3
                      have J3' := Lib.hid (show W4.heap[wS.heap.size]? = some (.deferred (some [])) from (p2.block _ l2 (by omega)).trans J3)
                      clear p1 p2 p3 p4 hW4 hLLP ho14 hL0 hC0 hi0 ht0 hd0 hL4 hi4 ht4 hd4 RK hal hcell f2 f3 f4 oq xq O4 c0 c1 J2 J3 l1 l2
                      gi_wp2
                      have t1 : ¬ (l.length : Int) ≤ (i : Int) := by omega
                      have t2 : decide ((l.length : Int) ≤ (i : Int)) = false := decide_eq_false t1
                      refine wpIn_round_quiet (by kernel_rfl) (by kernel_rfl) (by kernel_rfl) ?_
                      repeat (go_big_quiet_step (first
                        | (go_at_call 27; exact Calls.regrown_of (rec_same x aq ap d _ cq cp _ (XO.out.below (below_regrown _ _ _)) (XQ.out.below (below_regrown _ _ _)) rfl (by omega)))))
                      refine wpQuiet_nil ?_
                      intro W5 hW5
                      obtain ⟨⟨nq, osq⟩, hW5'⟩ := hW5
                      have b5 : Below W4.heap.size W4 W5 := by rw [hW5']; exact below_regrown _ _ _
                      clear hW5' v0 v1 v2 v3 v4 v5 v6 XO XQ
                      have bA : Below W5.heap.size W5 (W5.alloc (.cells #[.slice aq d.length cq] 31 (0, 0))) := below_alloc _ _
                      have b5A := Lib.hid (below_trans b5 bA)
                      have L5 := Lib.hid (L4.out.keep b5)
                      have LA := Lib.hid (L4.out.keep b5A.out)
                      have IA := Lib.hid ((b5A.out.block bi (heap_lt I4.out)).trans I4.out)
                      have TA := Lib.hid ((b5A.out.block bt1 (heap_lt T4.out)).trans T4.out)
                      have DA : Hid (∀ k : Nat, (fun k => (NB ≤ k ∧ k < n1) ∨ k = D0) k → k < (W5.alloc (.cells #[.slice aq d.length cq] 31 (0, 0))).heap.size ∧ (W5.alloc (.cells #[.slice aq d.length cq] 31 (0, 0))).heap[k]? = wT1.heap[k]?) := Lib.hid fun k hk => ⟨Nat.lt_of_lt_of_le (D4.out k hk).1 b5A.out.size, (b5A.out.block k (D4.out k hk).1).trans (D4.out k hk).2⟩
                      have OA := Lib.hid (OO.out.keep b5A.out)
                      have PA := Lib.hid ((b5A.out.block _ (heap_lt P3.out)).trans P3.out)
                      have JA := Lib.hid ((b5A.out.block _ (heap_lt J3'.out)).trans J3'.out)
                      have hq5 := (b5.block W1.heap.size (heap_lt Q4.out)).trans Q4.out
                      have c1 : W5.cell? ⟨W1.heap.size, 1, none⟩ = some (.slice aq d.length cq) := cell_of_row _ _ 1 _ _ _ hq5
                      have hk1 : W5.cell? ⟨kb + 1, 0, none⟩ = some (.pointer (some ⟨kb, 0, none⟩)) := cell_of_row _ _ 0 _ _ _ L5.out.kp
                      have CO := Lib.hid (come_one (xs := xs) (lo := w5.heap.size) (cell_of_row _ _ 0 _ _ _ (heap_alloc_new W5 (.cells #[.slice aq d.length cq] 31 (0, 0)))) (OA.out.base (show w5.heap.size ≤ W0.heap.size by have := LBI.out; have := HSZ.out; omega)) (by omega) FR.out)
                      have N1 := Lib.hid (show kb ≠ W5.heap.size from Nat.ne_of_lt (heap_lt L5.out.kept.box))
                      have N2 := Lib.hid (show lv.ownBlock ≠ some W5.heap.size from fun e => by obtain ⟨_, _, hc⟩ := rows_blk L5.out.kept.list e; exact Nat.lt_irrefl _ (heap_lt hc))
                      have N3 := Lib.hid (show w5.heap.size ≤ (W5.alloc (.cells #[.slice aq d.length cq] 31 (0, 0))).heap.size from Nat.le_trans LA.out.off.size (Nat.le_refl _))
                      have hP' : Hid (∀ k, PP k → k < W1.heap.size ∧ k < W0.heap.size) := Lib.hid fun k hk => by
                        have := (HPI.out k).1 hk
                        have := D0B.out
                        have := LBI.out
                        have := HSZ.out
                        omega
                      clear b5 bA hq5
                      gi_wp2
                      refine ⟨trivial, (in_round (keep_x kb w5.heap.size W5.heap.size 1 lv z xs [.slice aq d.length cq] _ LA.out.kept CO.out N1.out N2.out (by simp) N3.out LA.out.short)).mono ?_⟩
                      rintro e W6 ⟨rfl, lv', z', xs', hK, hB, -, hF, hS, hM, hF2⟩
                      obtain ⟨RD, i6, t6⟩ := turn_next (LL := wS.heap.size + 1) AP.out LA.out C4.out IA.out TA.out DA.out hP'.out LBI.out.1 (fun k hk hk' => B4.out.block k hk hk') B4.out.size b5A.out OA.out hK hB hF hS hM hF2 hTB.1
                      have PS := Past.of_keep LA.out.kept hB.size hF
                      have P6 := PS.block _ _ PA.out (fun _ _ e => by cases e) (fun _ _ e => by cases e)
                      have J6 := PS.block _ _ JA.out (fun _ _ e => by cases e) (fun _ _ e => by cases e)
                      have P7 := Lib.hid (show (W6.setCell ⟨bi, 0, none⟩ (.int .i64 ((i : Int) + 1))).heap[wS.heap.size + 1]? = some (.loop (lst lo .busy none)) from (Below.heap_setCell _ _ _ _ (by have := LBI.out; simp only [ne_eq]; omega)).trans P6)
                      have J7 := Lib.hid (show (W6.setCell ⟨bi, 0, none⟩ (.int .i64 ((i : Int) + 1))).heap[wS.heap.size]? = some (.deferred (some [])) from (Below.heap_setCell _ _ _ _ (by have := LBI.out; simp only [ne_eq]; omega)).trans J6)
                      have RDH := Lib.hid RD
                      have i7 : W6.cell? ⟨bi, 0, none⟩ = some (.int .i64 i) := cell_of_row _ _ 0 _ _ _ i6
                      have fi7 := frozen_of_row _ _ 0 _ _ i6
                      have t7 : W6.cell? ⟨bt1, 0, none⟩ = some (.int .i64 1) := cell_of_row _ _ 0 _ _ _ t6
                      have ne7 := hTB.1
                      clear hK hB hF hS hM hF2 RD i6 t6 PS P6 J6 c1 hk1 LA L5 IA TA DA OA CO N1 N2 N3
                      gi_wp2
                      exact roundTo_normal P7.out J7.out ⟨fun h => by omega, RDH.out⟩
                    · rintro e W2 (⟨rfl, W5, r1, ⟨r2, r3⟩, rfl, r5, r6⟩ | ⟨rfl, c, W5, r1, ⟨rfl, r2, r4, r3⟩, rfl, r5, r6⟩)
                      · exact ⟨W5, _, r3, rfl, r5, r6, .inl ⟨rfl, r2, rfl⟩⟩
                      · exact ⟨W5, _, r3, rfl, r5, r6, .inr ⟨rfl, r2, r4, rfl⟩⟩)
                  have EL := ES.out.on q3
                  have hgp : ∀ (W1 W2 : World), Gap ((loopW wS lo).heap.size + 4) ((loopW wS lo).heap.size + 7) W1 W2 → Off PM W1 W2 := fun W1 W2 hg => Off.of_gap hg (fun k k1 k2 => (HMI.out k).2 (by omega))
                  refine (each_it NB bN bS bO ao' cap' bs base seed 5 (wS.heap.size + 1)
                    (fun i W => (TurnI g w5 kb bi bt1 1 wT1 (fun k => (NB ≤ k ∧ k < n1) ∨ k = D0) PP i W ∧ (1 = (0 : Int) → i < 3)) ∧ W.heap[wS.heap.size + 1]? = some (.loop lo) ∧ W.heap[wS.heap.size]? = some (.deferred (some [])))
                    (fun W => (TurnI g w5 kb bi bt1 1 wT1 (fun k => (NB ≤ k ∧ k < n1) ∨ k = D0) PP 3 W ∧ 1 = (0 : Int)) ∧ W.heap[wS.heap.size + 1]? = some (.loop (lst lo .done (some (.exit 6)))) ∧ W.heap[wS.heap.size]? = some (.deferred (some [])))
                    (loopW wS lo) EL (by omega) h2 ?_ ?_ ?_ ?_).mono ?_
                  · rintro i W1 W2 ⟨⟨j1, j2⟩, j6, j7⟩ hg
                    have l1 := (Array.getElem?_eq_some_iff.1 j6).1
                    have l2 := (Array.getElem?_eq_some_iff.1 j7).1
                    exact ⟨⟨j1.move (hgp _ _ hg) (fun _ h => h) AP.out, j2⟩, (hg.block _ l1 (by omega)).trans j6, (hg.block _ l2 (by omega)).trans j7⟩
                  · rintro W1 W2 ⟨⟨j1, j2⟩, j6, j7⟩ hg
                    have l1 := (Array.getElem?_eq_some_iff.1 j6).1
                    have l2 := (Array.getElem?_eq_some_iff.1 j7).1
                    exact ⟨⟨j1.move (hgp _ _ hg) (fun _ h => h) AP.out, j2⟩, (hg.block _ l1 (by omega)).trans j6, (hg.block _ l2 (by omega)).trans j7⟩
                  · rintro i W0 W1 v hb1 hg hgo ⟨⟨j1, j2⟩, j6, j7⟩ hlt hu hO
                    have l1 := (Array.getElem?_eq_some_iff.1 j6).1
                    have l2 := (Array.getElem?_eq_some_iff.1 j7).1
                    have hil : i < l.length := by
                      rcases Nat.lt_or_ge i l.length with h | h
                      · exact h
                      · rcases ends_of OV.out LEN.out with ⟨h', _⟩ | ⟨_, h'⟩
                        · omega
                        · rcases Nat.lt_or_ge l.length i with h'' | h''
                          · exact (h'.2 (hg _ h'')).elim
                          · obtain rfl : i = l.length := by omega
                            exact (h'.2 hgo).elim
                    obtain ⟨⟨off, x, vq, d⟩, hq⟩ : ∃ q, l[i]? = some q := ⟨l[i], List.getElem?_eq_getElem hil⟩
                    obtain ⟨-, u1, u2, u3⟩ := TO.out i _ hq
                    dsimp only at u1 u2 u3
                    subst u1 u2 u3
                    obtain ⟨aq, cq, rfl, -, -, -, -, -⟩ := hO.slice
                    refine YieldAt.mono (HRound.out i _ _ vq _ aq cq W0 W1 hq j1 (hgp _ _ hu) j2 (by omega) hO ((hu.block _ l1 (by omega)).trans j6) ((hu.block _ l2 (by omega)).trans j7)) ?_
                    rintro e W2 ⟨W5, o, ⟨r1, r2, r3⟩, rfl, r4, r5, h⟩
                    have l5 := (Array.getElem?_eq_some_iff.1 r4).1
                    have hput : Off (fun k => k = wS.heap.size + 1) W5 (W5.putObj (wS.heap.size + 1) (.loop o)) := ⟨rfl, rfl, rfl, by simp, fun k _ hk => World.putObj_heap_other hk⟩
                    have T2 := r1.move hput (fun k hk => (HMI.out k).2 (by subst hk; omega)) AP.out
                    have HK : KeepE (loopW wS lo).heap.size ((loopW wS lo).heap.size + 7) ao' W1 (W5.putObj (wS.heap.size + 1) (.loop o)) := by
                      refine ⟨Nat.le_trans r2 hput.size, fun k k1 k2 k3 => ?_, fun g' o' e' k3 => ?_⟩
                      · exact (hput.block k (Nat.lt_of_lt_of_le k3 r2) (by omega)).trans (r3 k k3 ((HPI.out k).2 (.inr (by omega))) (by omega))
                      · have hgb := EL.gB g' o' e'
                        have hlt' : g' < n1 := EB.out g' o' e' (by have := hgo.1; omega)
                        exact (hput.block g' (Nat.lt_of_lt_of_le k3 r2) (by have := LBI.out; omega)).trans (r3 g' k3 ((HPI.out g').2 (.inl <| .inl ⟨hgb, hlt'⟩)) (by have := LBI.out; omega))
                    rcases h with ⟨rfl, hx, rfl⟩ | ⟨rfl, hx, hx3, rfl⟩
                    · exact .inl ⟨rfl, ⟨⟨T2, fun h => by have := hx h; have := j2 h; omega⟩, r4, r5⟩, HK⟩
                    · refine .inr ⟨rfl, ⟨⟨?_, hx⟩, r4, r5⟩, HK⟩
                      rw [hx3] at T2
                      exact T2
                  · exact ⟨⟨START.out, fun _ => by decide⟩, q1, q2⟩
                  · rintro e W' ⟨⟨v0, rfl⟩, h⟩
                    refine ⟨⟨v0, rfl⟩, range_or (fun Wx => ∃ N, TurnI g w5 kb bi bt1 1 wT1 (fun k => (NB ≤ k ∧ k < n1) ∨ k = D0) PP N Wx ∧ (N = l.length ∨ (1 = (0 : Int) ∧ N = 3)) ∧ Wx.heap[wS.heap.size]? = some (.deferred (some []))) ?_ ?_⟩
                    · rintro Wx ⟨N, hTI, hN, hD⟩
                      have HTI := Lib.hid hTI
                      have HDD := Lib.hid hD
                      have HN := Lib.hid hN
                      clear h hTI hD hN HRound START q1 q2 q3 q4 EL hgp hlo
                      obtain ⟨lv, z, xs, hL, hC, hi, ht, hd⟩ := HTI.out
                      have LX := Lib.hid hL
                      have DX := Lib.hid hd
                      have ci : Wx.cell? ⟨bi, 0, none⟩ = some (.int .i64 N) := cell_of_row _ _ 0 _ _ _ hi
                      have ct : Wx.cell? ⟨bt1, 0, none⟩ = some (.int .i64 1) := cell_of_row _ _ 0 _ _ _ ht
                      have cal : Wx.cell? ⟨w3.heap.size + 1, 0, none⟩ = some (.slice aa l.length ca) := cell_of_row _ _ 0 _ _ _ (HROW.out Wx hL.off).2
                      have hlow : Off (fun j => j = g) w5 Wx := hL.off
                      have BX := Lib.hid (show Below w.heap.size w Wx from hlow.below B5.out (fun k hk e => by have := GW.out; omega) B5.out.size)
                      clear hL hC hi ht hd hlow
                      obtain rfl : N = l.length := by rcases HN.out with h | h <;> omega
                      have bE := below_alloc Wx (.cells #[.int .i64 2] 3)
                      have LE := Lib.hid (LX.out.keep bE)
                      have KPE : (Wx.alloc (.cells #[.int .i64 2] 3)).cell? ⟨kb + 1, 0, none⟩ = some (.pointer (some ⟨kb, 0, none⟩)) := cell_of_row _ _ 0 _ _ _ LE.out.kp
                      have RE := Lib.hid ((bE.block w.heap.size (by have := GW.out; have := LX.out.off.size; have := GL.out; omega)).trans ((LX.out.off.block w.heap.size (heap_lt R5.out) (by have := GW.out; omega)).trans R5.out))
                      have DE1 := Lib.hid ((bE.block wS.heap.size (heap_lt HDD.out)).trans HDD.out)
                      have DE0 := Lib.hid ((bE.block D0 (DX.out D0 (.inr rfl)).1).trans ((DX.out D0 (.inr rfl)).2.trans HD0.out))
                      have BE := Lib.hid (below_trans BX.out bE)
                      have DD01 := Lib.hid (show D0 < wS.heap.size from by have := D0B.out; have := LBI.out; have := SS.out; have := HBI.out; have := BND.out; omega)
                      obtain ⟨alv, clv, hlv⟩ := row_slice LE.out.kept.list
                      subst hlv
                      clear bE
                      go_wp2_with fail
                      rw [rounds_succ]
                      go_wp2_with fail
                      refine (apart_x kb w5.heap.size alv xs.length clv z xs _ LE.out.kept rfl LE.out.short LE.out.off.size).mono ?_
                      rintro e wZ ⟨rfl, hbz⟩
                      have RZ := (hbz.b.block w.heap.size (heap_lt R5.out)).trans RE.out
                      have z0 := cell_of_row _ _ 0 _ _ _ RZ
                      have fz0 := frozen_of_row _ _ 0 _ _ RZ
                      have Z1 := hbz.nc _ _ DE1.out (fun _ _ _ e => by cases e)
                      have Z0 := hbz.nc _ _ DE0.out (fun _ _ _ e => by cases e)
                      have BZ := Lib.hid (show Below w.heap.size w (wZ.setCell ⟨w.heap.size, 0, none⟩ (.bool true)) from ((BE.out.trans (hbz.b.mono (Nat.le_of_lt (heap_lt R5.out)))).setCell (p := ⟨w.heap.size, 0, none⟩) (Nat.le_refl _) _))
                      have wne : w.heap.size < D0 := by have := D0B.out; have := BND.out; have := heap_lt R5.out; omega
                      have Y1 : (wZ.setCell ⟨w.heap.size, 0, none⟩ (.bool true)).heap[wS.heap.size]? = some (.deferred (some [])) := (Below.heap_setCell _ _ _ _ (by have := DD01.out; simp only [ne_eq]; omega)).trans Z1
                      have Y0 : (wZ.setCell ⟨w.heap.size, 0, none⟩ (.bool true)).heap[D0]? = some (.deferred (some [])) := (Below.heap_setCell _ _ _ _ (by simp only [ne_eq]; omega)).trans Z0
                      have YC : (wZ.setCell ⟨w.heap.size, 0, none⟩ (.bool true)).cell? ⟨w.heap.size, 0, none⟩ = some (.bool true) := World.cell?_setCell_same _ _ _ z0
                      have Y1H := Lib.hid Y1
                      have Y0H := Lib.hid Y0
                      have YCH := Lib.hid YC
                      clear Y1 Y0 YC Z1 Z0
                      go_wp2_with fail
                      refine noPanic_ret ?_
                      have l1 := heap_lt Y1H.out
                      have h0 : ((wZ.setCell ⟨w.heap.size, 0, none⟩ (.bool true)).putObj wS.heap.size (.deferred none)).heap[D0]? = some (.deferred (some [])) := (World.putObj_heap_other (by have := DD01.out; omega)).trans Y0H.out
                      have l0 := heap_lt h0
                      refine ⟨by simp, .inl ⟨_, _, rfl, run_takeDeferred Y1H.out, ?_⟩⟩
                      refine ⟨by simp, .inl ⟨_, _, rfl, run_takeDeferred h0, ?_⟩⟩
                      have hc1 := (World.cell?_of_block (a := ⟨w.heap.size, 0, none⟩) (show ((wZ.setCell ⟨w.heap.size, 0, none⟩ (.bool true)).putObj wS.heap.size (.deferred none)).heap[w.heap.size]? = (wZ.setCell ⟨w.heap.size, 0, none⟩ (.bool true)).heap[w.heap.size]? from World.putObj_heap_other (by have := DD01.out; omega))).trans YCH.out
                      have hc2 := (World.cell?_of_block (a := ⟨w.heap.size, 0, none⟩) (show (((wZ.setCell ⟨w.heap.size, 0, none⟩ (.bool true)).putObj wS.heap.size (.deferred none)).putObj D0 (.deferred none)).heap[w.heap.size]? = ((wZ.setCell ⟨w.heap.size, 0, none⟩ (.bool true)).putObj wS.heap.size (.deferred none)).heap[w.heap.size]? from World.putObj_heap_other (by omega))).trans hc1
                      have bb1 := But.below BZ.out (but_putObj _ wS.heap.size (.deferred none) l1) (by have := DD01.out; omega) BZ.out.size
                      have bb2 := But.below bb1 (but_putObj _ D0 (.deferred none) l0) (by omega) bb1.size
                      exact ⟨_, results_bool rfl _ _ w.heap.size (.bool true) rfl hc2, rfl, bb2⟩
                    · have hputS : ∀ (o : Loop), ∀ N, TurnI g w5 kb bi bt1 1 wT1 (fun k => (NB ≤ k ∧ k < n1) ∨ k = D0) PP N W' → W'.heap[wS.heap.size]? = some (.deferred (some [])) → (N = l.length ∨ (1 = (0 : Int) ∧ N = 3)) → ∃ N, TurnI g w5 kb bi bt1 1 wT1 (fun k => (NB ≤ k ∧ k < n1) ∨ k = D0) PP N (W'.putObj (wS.heap.size + 1) (.loop o)) ∧ (N = l.length ∨ (1 = (0 : Int) ∧ N = 3)) ∧ (W'.putObj (wS.heap.size + 1) (.loop o)).heap[wS.heap.size]? = some (.deferred (some [])) := fun o N hT hD hN => by
                        have hput : Off (fun k => k = wS.heap.size + 1) W' (W'.putObj (wS.heap.size + 1) (.loop o)) := ⟨rfl, rfl, rfl, by simp, fun k _ hk => World.putObj_heap_other hk⟩
                        exact ⟨N, hT.move hput (fun k hk => (HMI.out k).2 (by subst hk; omega)) AP.out, hN, (World.putObj_heap_other (by omega)).trans hD⟩
                      rcases h with ⟨i, hend, ⟨j1, j2⟩, j6, j7⟩ | ⟨⟨j1, j2⟩, j6, j7⟩
                      · refine .inl ⟨j6, hputS _ i j1 j7 (.inl ?_)⟩
                        rcases hend with ⟨k1, k2⟩ | ⟨k1, k2⟩ <;> rcases ends_of OV.out LEN.out with ⟨m1', m2'⟩ | ⟨m1', m2'⟩
                        · omega
                        · omega
                        · omega
                        · exact k2.uniq m2'
                      · exact .inr ⟨j6, hputS _ 3 j1 j7 (.inr ⟨j2, rfl⟩)⟩
                · subst hN
                  have b1 : ((3 : Int) == (l.length : Int)) = false := beq_false_of_ne (by omega)
                  have b2 : ((3 : Int) != (l.length : Int)) = true := by simp [bne, b1]
                  go_wp2_with fail
                  have bX := below_alloc Wx (.cells #[.int .i64 1] 3)
                  have szX : (Wx.alloc (.cells #[.int .i64 1] 3)).heap.size = Wx.heap.size + 1 := by show (Wx.heap.push _).size = _; rw [Array.size_push]
                  have LT := Lib.hid (LX.out.keep bX)
                  have ET := Lib.hid ((ET.out.same EBN.out.1 EBN.out.2.1 EBN.out.2.2 EB.out (fun k h1 h2 => (DX.out k ⟨h1, h2⟩).2)).on bX)
                  have TB := Lib.hid (heap_alloc_new Wx (.cells #[.int .i64 1] 3))
                  have BT := Lib.hid (below_trans BX.out bX)
                  have D0X := (bX.block wS.heap.size (heap_lt HDD.out)).trans HDD.out
                  have CLT : Hid (Clear (fun j => (NB ≤ j ∧ j < n1) ∨ j = wS.heap.size) lv xs) := Lib.hid ⟨fun q hq h => CX.out.1 q hq ((HPI.out q).2 (by omega)), fun x hx q hq h => CX.out.2 x hx q hq ((HPI.out q).2 (by omega))⟩
                  obtain ⟨wT1, hwT1⟩ : ∃ wT1, Wx.alloc (.cells #[.int .i64 1] 3) = wT1 := ⟨_, rfl⟩
                  obtain ⟨bt1, hbt1⟩ : ∃ bt1, Wx.heap.size = bt1 := ⟨_, rfl⟩
                  obtain ⟨D0, hD0⟩ : ∃ D0, wS.heap.size = D0 := ⟨_, rfl⟩
                  have D0B := Lib.hid (show n1 ≤ D0 ∧ D0 < bt1 from by have := LBI.out; have := heap_lt HDD.out; omega)
                  rw [hwT1] at LT ET TB BT szX D0X
                  rw [hbt1] at TB szX
                  rw [hD0] at CLT D0X
                  rw [hwT1, hbt1, hD0]
                  have HD0 := Lib.hid D0X
                  have BND := Lib.hid (show n1 ≤ bt1 ∧ w5.heap.size ≤ NB ∧ NB ≤ n1 ∧ bt1 < wT1.heap.size from by have := BND.out; have := D0B.out; omega)
                  clear bX szX LX DX CX HDD hwT1 hbt1 hD0 D0X BX HTI HN ci ct cal
                  rw [rounds_succ]
                  obtain ⟨wS, hwS⟩ : ∃ wS, wT1.alloc (.cells #[.int .i64 0] 3) = wS := ⟨_, rfl⟩
                  have bS := below_alloc wT1 (.cells #[.int .i64 0] 3)
                  have hnS := heap_alloc_new wT1 (.cells #[.int .i64 0] 3)
                  have szS : (wT1.alloc (.cells #[.int .i64 0] 3)).heap.size = wT1.heap.size + 1 := by show (wT1.heap.push _).size = _; rw [Array.size_push]
                  rw [hwS] at bS hnS szS
                  obtain ⟨bi, hbi⟩ : ∃ bi, wT1.heap.size = bi := ⟨_, rfl⟩
                  rw [hbi] at hnS szS
                  have HWS := Lib.hid hwS
                  have HBI := Lib.hid hbi
                  have LS := Lib.hid (LT.out.keep bS)
                  have ES := Lib.hid (ET.out.on bS)
                  have IS := Lib.hid hnS
                  have TS := Lib.hid ((bS.block _ (heap_lt TB.out)).trans TB.out)
                  have BS := Lib.hid (below_trans BT.out bS)
                  have BTW := Lib.hid bS
                  have SS := Lib.hid szS
                  have t0 := cell_of_row _ _ 0 _ _ _ TB.out
                  clear hwS hbi bS hnS szS
                  go_wp2_with fail
                  rw [HWS.out, HBI.out]
                  clear HWS t0
                  refine wpIn_wide.1 (range_in (n := 8) rfl (enters_of Try.func75 (by kernel_rfl) rfl) fun fn lo hlo => ?_)
                  obtain ⟨q1, q2, q3, q4⟩ := loopW_at wS lo
                  simp only [List.append_toArray, List.cons_append, List.nil_append]
                  have hTB : bi ≠ bt1 ∧ bt1 < bi := by have := heap_lt TB.out; have := HBI.out; omega
                  obtain ⟨PP, hPP⟩ : ∃ PP : Nat → Prop, PP = fun k => ((NB ≤ k ∧ k < n1) ∨ k = D0) ∨ (wS.heap.size ≤ k ∧ k < wS.heap.size + 9) := ⟨_, rfl⟩
                  have PPI : ∀ k, PP k ↔ ((NB ≤ k ∧ k < n1) ∨ k = D0) ∨ (wS.heap.size ≤ k ∧ k < wS.heap.size + 9) := fun k => by rw [hPP]
                  have HPI := Lib.hid PPI
                  have p1 : ¬ PP kb := fun h => by have := (PPI kb).1 h; have := KB7.out; have := SS.out; have := HBI.out; have := heap_lt TB.out; have := BND.out; have := D0B.out; omega
                  have p2 : ¬ PP (kb + 1) := fun h => by have := (PPI (kb + 1)).1 h; have := KB7.out; have := SS.out; have := HBI.out; have := heap_lt TB.out; have := BND.out; have := D0B.out; omega
                  have p3 : ¬ PP bi := fun h => by have := (PPI bi).1 h; have := SS.out; have := HBI.out; have := heap_lt TB.out; have := BND.out; have := D0B.out; omega
                  have p4 : ¬ PP bt1 := fun h => by have := (PPI bt1).1 h; have := SS.out; have := HBI.out; have := heap_lt TB.out; have := BND.out; have := D0B.out; omega
                  have p5 : ∀ k, k < w5.heap.size → ¬ PP k := fun k hk h => by have := (PPI k).1 h; have := SS.out; have := HBI.out; have := heap_lt TB.out; have := BND.out; have := D0B.out; omega
                  obtain ⟨PM, hPM⟩ : ∃ PM : Nat → Prop, PM = fun k => wS.heap.size ≤ k ∧ k < wS.heap.size + 9 := ⟨_, rfl⟩
                  have HMI : Hid (∀ k, PM k ↔ wS.heap.size ≤ k ∧ k < wS.heap.size + 9) := Lib.hid fun k => by rw [hPM]
                  have AP := Lib.hid (show Apt w5 kb bi bt1 (fun k => (NB ≤ k ∧ k < n1) ∨ k = D0) PP PM from ⟨p1, p2, p3, p4, p5, fun k h => (PPI k).2 (.inr ((HMI.out k).1 h)), (fun k h => (PPI k).2 (.inl h)), (fun k h h' => by have := (HMI.out k).1 h'; have := SS.out; have := HBI.out; have := BND.out; have := D0B.out; omega)⟩)
                  clear hPM
                  have CLS : Clear PP lv xs := ⟨fun q hq h => by
                    have h1 := CLT.out.1 q hq
                    have h2 := LT.out.old.1 q hq
                    have := (PPI q).1 h
                    have := D0B.out
                    have := BND.out
                    have := SS.out
                    have := HBI.out
                    omega, fun x hx q hq h => by
                    have h1 := CLT.out.2 x hx q hq
                    have h2 := LT.out.old.2 x hx q hq
                    have := (PPI q).1 h
                    have := D0B.out
                    have := BND.out
                    have := SS.out
                    have := HBI.out
                    omega⟩
                  have BTS := Lib.hid (show Below wT1.heap.size wT1 (loopW wS lo) from below_trans BTW.out q3)
                  have START : Hid (TurnI g w5 kb bi bt1 1 wT1 (fun k => (NB ≤ k ∧ k < n1) ∨ k = D0) PP 0 (loopW wS lo)) := Lib.hid ⟨lv, z, xs, LS.out.keep q3, CLS, (q3.block bi (by have := SS.out; omega)).trans IS.out, (q3.block bt1 (heap_lt TS.out)).trans TS.out, (fun k h => ⟨Nat.lt_of_lt_of_le (show k < wT1.heap.size by have := BND.out; have := D0B.out; omega) BTS.out.size, BTS.out.block k (by have := BND.out; have := D0B.out; omega)⟩)⟩
                  have HROW : Hid (∀ W : World, Off (fun j => j = g) w5 W → RowAt 64 3 cells3 W w2.heap.size (.slice aa l.length ca) l ∧ W.heap[w3.heap.size + 1]? = some (.cells #[.slice aa l.length ca] 58 (0, 0))) := Lib.hid fun W h => ⟨ROW5.out.off fun g' h1 h2 => h.block g' h2 (by have := GL2.out; omega), (h.block _ (heap_lt A5.out) (by have := GL3.out; omega)).trans A5.out⟩
                  have LBI := Lib.hid (show w5.heap.size ≤ bi ∧ bi < wS.heap.size ∧ n1 ≤ bi from by have := SS.out; have := HBI.out; have := heap_lt TB.out; have := BND.out; have := D0B.out; omega)
                  clear CLS p1 p2 p3 p4 p5 hPP PPI
                  have HRound : Hid (∀ (i : Nat) (off x : Int) (vq : Value) (d : List (BitVec 8)) (aq : Option Addr) (cq : Nat) (W0 W1 : World), l[i]? = some ⟨off, x, vq, d⟩ → TurnI g w5 kb bi bt1 1 wT1 (fun k => (NB ≤ k ∧ k < n1) ∨ k = D0) PP i W0 → Off PM W0 W1 → (1 = (0 : Int) → i < 3) → wS.heap.size + 9 ≤ W0.heap.size → OwnB W1 W0.heap.size (.slice aq d.length cq) d →
                      W1.heap[wS.heap.size + 1]? = some (.loop lo) → W1.heap[wS.heap.size]? = some (.deferred (some [])) →
                      YieldAt Fence.wide 5 Try.prog (wS.heap.size + 1) #[.int .i64 off, .agg #[.int .i64 x, .slice aq d.length cq]] W1 fun e W2 => ∃ W5 o, RdTo g w5 kb bi bt1 1 wT1 (fun k => (NB ≤ k ∧ k < n1) ∨ k = D0) PP (wS.heap.size + 1) i W1 W5 ∧ W2 = W5.putObj (wS.heap.size + 1) (.loop o) ∧ W2.heap[wS.heap.size + 1]? = some (.loop o) ∧ W2.heap[wS.heap.size]? = some (.deferred (some [])) ∧
                        ((e = .returned (.bool true) ∧ (1 = (0 : Int) → i + 1 ≠ 3) ∧ o = lo) ∨ (e = .returned (.bool false) ∧ 1 = (0 : Int) ∧ i + 1 = 3 ∧ o = lst lo .done (some (.exit 6))))) := Lib.hid (by
                    intro i off x vq d aq cq W0 W1 hq hT hu hT3 hsz hO J2 J3
                    have l1 := (Array.getElem?_eq_some_iff.1 J2).1
                    have l2 := (Array.getElem?_eq_some_iff.1 J3).1
                    have HQ := Lib.hid hq
                    have HTI := Lib.hid hT
                    have HU := Lib.hid hu
                    have HO := Lib.hid hO
                    have HT3 := Lib.hid hT3
                    have HSZ := Lib.hid (show wS.heap.size + 9 ≤ W0.heap.size ∧ W0.heap.size ≤ W1.heap.size from ⟨hsz, hu.size⟩)
                    have hil : i < l.length := (List.getElem?_eq_some_iff.1 hq).1
                    have hdl : d.length ≤ 4096 := told_small TO.out hq
                    clear hq hT hO hT3 hsz hu
                    refine YieldAt.mono (round_in hlo trivial J2 J3 (by omega) rfl
                      (RdN 1 i (RdTo g w5 kb bi bt1 1 wT1 (fun k => (NB ≤ k ∧ k < n1) ∨ k = D0) PP (wS.heap.size + 1) i W1))
                      (RdX 1 i (RdTo g w5 kb bi bt1 1 wT1 (fun k => (NB ≤ k ∧ k < n1) ∨ k = D0) PP (wS.heap.size + 1) i W1)) ?_) ?_
                    · have K2 := Lib.hid J2
                      have K3 := Lib.hid J3
                      clear l1 l2 J2 J3
                      gi_wp2
                      have J2 := K2.out
                      have J3 := K3.out
                      have l1 := (Array.getElem?_eq_some_iff.1 J2).1
                      have l2 := (Array.getElem?_eq_some_iff.1 J3).1
                      obtain ⟨p1, p2, p3, p4⟩ := round_box W1 #[.int .i64 x, .slice aq d.length cq] 34 (wS.heap.size + 1) (.loop (lst lo .busy none)) (by omega)
                      refine ⟨p4, (below_alloc W1 _).block wS.heap.size (by omega), ?_⟩
                      obtain ⟨W4, hW4⟩ : ∃ W4, (W1.alloc (.cells #[.int .i64 x, .slice aq d.length cq] 34)).putObj (wS.heap.size + 1) (.loop (lst lo .busy none)) = W4 := ⟨_, rfl⟩
                      rw [hW4]
                      rw [hW4] at p1 p2 p3
                      have hLLP : PM (wS.heap.size + 1) := (HMI.out _).2 ⟨by omega, by omega⟩
                      have ho14 : Off PM W0 W4 := HU.out.trans (Off.of_but p2 hLLP)
                      obtain ⟨lv, z, xs, hL0, hC0, hi0, ht0, hd0⟩ := HTI.out
                      have FR := Lib.hid (hL0.fresh HO.out (Nat.le_refl _))
                      have hL4 := hL0.move (Q := PM) ⟨fun q hq h => hC0.1 q hq (AP.out.sub q h), fun x hx q hq h => hC0.2 x hx q hq (AP.out.sub q h)⟩ ho14 (fun h => AP.out.k0 (AP.out.sub _ h)) (fun h => AP.out.k1 (AP.out.sub _ h)) (fun j hj hp => (AP.out.low j hj (AP.out.sub _ hp)).elim)
                      have hi4 := (ho14.block _ (heap_lt hi0) (fun h => AP.out.i (AP.out.sub _ h))).trans hi0
                      have ht4 := (ho14.block _ (heap_lt ht0) (fun h => AP.out.t (AP.out.sub _ h))).trans ht0
                      have hd4 : ∀ k : Nat, (fun k => (NB ≤ k ∧ k < n1) ∨ k = D0) k → k < W4.heap.size ∧ W4.heap[k]? = wT1.heap[k]? := fun k hk => ⟨Nat.lt_of_lt_of_le (hd0 k hk).1 ho14.size, (ho14.block _ (hd0 k hk).1 (AP.out.dM k hk)).trans (hd0 k hk).2⟩
                      obtain ⟨RK, hal⟩ := HROW.out W4 hL4.off
                      obtain ⟨ga, cc, hv, -, -, hcell⟩ := row_at RK.row (by omega)
                      injection hv with h1 _ h3
                      subst h1 h3
                      obtain ⟨f2, f3, f4⟩ := flat3 l i _ HQ.out
                      have oq := RK.own _ (List.mem_of_getElem? HQ.out)
                      dsimp only at f2 f3 f4 oq
                      obtain ⟨ap, cp, rfl, xq, -, -, -, -⟩ := oq.slice
                      have O4 : OwnB W4 W0.heap.size (.slice aq d.length cq) d := own_off HO.out (w' := W4) (fun g' g1 g2 => p2.block g' g2 (by have := HSZ.out; omega))
                      have c0 : W4.cell? ⟨W1.heap.size, 0, none⟩ = some (.int .i64 x) := cell_of_row _ _ 0 _ _ _ p1
                      have c1 : W4.cell? ⟨W1.heap.size, 1, none⟩ = some (.slice aq d.length cq) := cell_of_row _ _ 1 _ _ _ p1
                      have v0 := cell_regrown c0
                      have v1 := cell_regrown c1
                      have v2 := cell_regrown (hcell _ _ f2)
                      have v3 := cell_regrown (hcell _ _ f3)
                      have v4 := cell_regrown (hcell _ _ f4)
                      have v5 := cell_regrown (show W4.cell? ⟨w3.heap.size + 1, 0, none⟩ = some (.slice (some ⟨ga, 0, none⟩) l.length ca) from cell_of_row _ _ 0 _ _ _ hal)
                      have v6 := cell_regrown (show W4.cell? ⟨bi, 0, none⟩ = some (.int .i64 i) from cell_of_row _ _ 0 _ _ _ hi4)
                      have t1 : ¬ (l.length : Int) ≤ (i : Int) := by omega
                      have XO := Lib.hid (own_at O4)
                      have XQ := Lib.hid xq
                      have OO := Lib.hid O4
                      have L4 := Lib.hid hL4
                      have C4 := Lib.hid hC0
                      have I4 := Lib.hid hi4
                      have T4 := Lib.hid ht4
                      have D4 := Lib.hid hd4
                      have Q4 := Lib.hid p1
                      have B4 := Lib.hid p2
                      have P3 := Lib.hid p3
                      have J3' := Lib.hid (show W4.heap[wS.heap.size]? = some (.deferred (some [])) from (p2.block _ l2 (by omega)).trans J3)
                      clear p1 p2 p3 p4 hW4 hLLP ho14 hL0 hC0 hi0 ht0 hd0 hL4 hi4 ht4 hd4 RK hal hcell f2 f3 f4 oq xq O4 c0 c1 J2 J3 l1 l2
                      gi_wp2
                      have t1 : ¬ (l.length : Int) ≤ (i : Int) := by omega
                      have t2 : decide ((l.length : Int) ≤ (i : Int)) = false := decide_eq_false t1
                      refine wpIn_round_quiet (by kernel_rfl) (by kernel_rfl) (by kernel_rfl) ?_
                      repeat (go_big_quiet_step (first
                        | (go_at_call 27; exact Calls.regrown_of (rec_same x aq ap d _ cq cp _ (XO.out.below (below_regrown _ _ _)) (XQ.out.below (below_regrown _ _ _)) rfl (by omega)))))
                      refine wpQuiet_nil ?_
                      intro W5 hW5
                      obtain ⟨⟨nq, osq⟩, hW5'⟩ := hW5
                      have b5 : Below W4.heap.size W4 W5 := by rw [hW5']; exact below_regrown _ _ _
                      clear hW5' v0 v1 v2 v3 v4 v5 v6 XO XQ
                      have bA : Below W5.heap.size W5 (W5.alloc (.cells #[.slice aq d.length cq] 31 (0, 0))) := below_alloc _ _
                      have b5A := Lib.hid (below_trans b5 bA)
                      have L5 := Lib.hid (L4.out.keep b5)
                      have LA := Lib.hid (L4.out.keep b5A.out)
                      have IA := Lib.hid ((b5A.out.block bi (heap_lt I4.out)).trans I4.out)
                      have TA := Lib.hid ((b5A.out.block bt1 (heap_lt T4.out)).trans T4.out)
                      have DA : Hid (∀ k : Nat, (fun k => (NB ≤ k ∧ k < n1) ∨ k = D0) k → k < (W5.alloc (.cells #[.slice aq d.length cq] 31 (0, 0))).heap.size ∧ (W5.alloc (.cells #[.slice aq d.length cq] 31 (0, 0))).heap[k]? = wT1.heap[k]?) := Lib.hid fun k hk => ⟨Nat.lt_of_lt_of_le (D4.out k hk).1 b5A.out.size, (b5A.out.block k (D4.out k hk).1).trans (D4.out k hk).2⟩
                      have OA := Lib.hid (OO.out.keep b5A.out)
                      have PA := Lib.hid ((b5A.out.block _ (heap_lt P3.out)).trans P3.out)
                      have JA := Lib.hid ((b5A.out.block _ (heap_lt J3'.out)).trans J3'.out)
                      have hq5 := (b5.block W1.heap.size (heap_lt Q4.out)).trans Q4.out
                      have c1 : W5.cell? ⟨W1.heap.size, 1, none⟩ = some (.slice aq d.length cq) := cell_of_row _ _ 1 _ _ _ hq5
                      have hk1 : W5.cell? ⟨kb + 1, 0, none⟩ = some (.pointer (some ⟨kb, 0, none⟩)) := cell_of_row _ _ 0 _ _ _ L5.out.kp
                      have CO := Lib.hid (come_one (xs := xs) (lo := w5.heap.size) (cell_of_row _ _ 0 _ _ _ (heap_alloc_new W5 (.cells #[.slice aq d.length cq] 31 (0, 0)))) (OA.out.base (show w5.heap.size ≤ W0.heap.size by have := LBI.out; have := HSZ.out; omega)) (by omega) FR.out)
                      have N1 := Lib.hid (show kb ≠ W5.heap.size from Nat.ne_of_lt (heap_lt L5.out.kept.box))
                      have N2 := Lib.hid (show lv.ownBlock ≠ some W5.heap.size from fun e => by obtain ⟨_, _, hc⟩ := rows_blk L5.out.kept.list e; exact Nat.lt_irrefl _ (heap_lt hc))
                      have N3 := Lib.hid (show w5.heap.size ≤ (W5.alloc (.cells #[.slice aq d.length cq] 31 (0, 0))).heap.size from Nat.le_trans LA.out.off.size (Nat.le_refl _))
                      have hP' : Hid (∀ k, PP k → k < W1.heap.size ∧ k < W0.heap.size) := Lib.hid fun k hk => by
                        have := (HPI.out k).1 hk
                        have := D0B.out
                        have := LBI.out
                        have := HSZ.out
                        omega
                      clear b5 bA hq5
                      gi_wp2
                      refine ⟨trivial, (in_round (keep_x kb w5.heap.size W5.heap.size 1 lv z xs [.slice aq d.length cq] _ LA.out.kept CO.out N1.out N2.out (by simp) N3.out LA.out.short)).mono ?_⟩
                      rintro e W6 ⟨rfl, lv', z', xs', hK, hB, -, hF, hS, hM, hF2⟩
                      obtain ⟨RD, i6, t6⟩ := turn_next (LL := wS.heap.size + 1) AP.out LA.out C4.out IA.out TA.out DA.out hP'.out LBI.out.1 (fun k hk hk' => B4.out.block k hk hk') B4.out.size b5A.out OA.out hK hB hF hS hM hF2 hTB.1
                      have PS := Past.of_keep LA.out.kept hB.size hF
                      have P6 := PS.block _ _ PA.out (fun _ _ e => by cases e) (fun _ _ e => by cases e)
                      have J6 := PS.block _ _ JA.out (fun _ _ e => by cases e) (fun _ _ e => by cases e)
                      have P7 := Lib.hid (show (W6.setCell ⟨bi, 0, none⟩ (.int .i64 ((i : Int) + 1))).heap[wS.heap.size + 1]? = some (.loop (lst lo .busy none)) from (Below.heap_setCell _ _ _ _ (by have := LBI.out; simp only [ne_eq]; omega)).trans P6)
                      have J7 := Lib.hid (show (W6.setCell ⟨bi, 0, none⟩ (.int .i64 ((i : Int) + 1))).heap[wS.heap.size]? = some (.deferred (some [])) from (Below.heap_setCell _ _ _ _ (by have := LBI.out; simp only [ne_eq]; omega)).trans J6)
                      have RDH := Lib.hid RD
                      have i7 : W6.cell? ⟨bi, 0, none⟩ = some (.int .i64 i) := cell_of_row _ _ 0 _ _ _ i6
                      have fi7 := frozen_of_row _ _ 0 _ _ i6
                      have t7 : W6.cell? ⟨bt1, 0, none⟩ = some (.int .i64 1) := cell_of_row _ _ 0 _ _ _ t6
                      have ne7 := hTB.1
                      clear hK hB hF hS hM hF2 RD i6 t6 PS P6 J6 c1 hk1 LA L5 IA TA DA OA CO N1 N2 N3
                      gi_wp2
                      exact roundTo_normal P7.out J7.out ⟨fun h => by omega, RDH.out⟩
                    · rintro e W2 (⟨rfl, W5, r1, ⟨r2, r3⟩, rfl, r5, r6⟩ | ⟨rfl, c, W5, r1, ⟨rfl, r2, r4, r3⟩, rfl, r5, r6⟩)
                      · exact ⟨W5, _, r3, rfl, r5, r6, .inl ⟨rfl, r2, rfl⟩⟩
                      · exact ⟨W5, _, r3, rfl, r5, r6, .inr ⟨rfl, r2, r4, rfl⟩⟩)
                  have EL := ES.out.on q3
                  have hgp : ∀ (W1 W2 : World), Gap ((loopW wS lo).heap.size + 4) ((loopW wS lo).heap.size + 7) W1 W2 → Off PM W1 W2 := fun W1 W2 hg => Off.of_gap hg (fun k k1 k2 => (HMI.out k).2 (by omega))
                  refine (each_it NB bN bS bO ao' cap' bs base seed 5 (wS.heap.size + 1)
                    (fun i W => (TurnI g w5 kb bi bt1 1 wT1 (fun k => (NB ≤ k ∧ k < n1) ∨ k = D0) PP i W ∧ (1 = (0 : Int) → i < 3)) ∧ W.heap[wS.heap.size + 1]? = some (.loop lo) ∧ W.heap[wS.heap.size]? = some (.deferred (some [])))
                    (fun W => (TurnI g w5 kb bi bt1 1 wT1 (fun k => (NB ≤ k ∧ k < n1) ∨ k = D0) PP 3 W ∧ 1 = (0 : Int)) ∧ W.heap[wS.heap.size + 1]? = some (.loop (lst lo .done (some (.exit 6)))) ∧ W.heap[wS.heap.size]? = some (.deferred (some [])))
                    (loopW wS lo) EL (by omega) h2 ?_ ?_ ?_ ?_).mono ?_
                  · rintro i W1 W2 ⟨⟨j1, j2⟩, j6, j7⟩ hg
                    have l1 := (Array.getElem?_eq_some_iff.1 j6).1
                    have l2 := (Array.getElem?_eq_some_iff.1 j7).1
                    exact ⟨⟨j1.move (hgp _ _ hg) (fun _ h => h) AP.out, j2⟩, (hg.block _ l1 (by omega)).trans j6, (hg.block _ l2 (by omega)).trans j7⟩
                  · rintro W1 W2 ⟨⟨j1, j2⟩, j6, j7⟩ hg
                    have l1 := (Array.getElem?_eq_some_iff.1 j6).1
                    have l2 := (Array.getElem?_eq_some_iff.1 j7).1
                    exact ⟨⟨j1.move (hgp _ _ hg) (fun _ h => h) AP.out, j2⟩, (hg.block _ l1 (by omega)).trans j6, (hg.block _ l2 (by omega)).trans j7⟩
                  · rintro i W0 W1 v hb1 hg hgo ⟨⟨j1, j2⟩, j6, j7⟩ hlt hu hO
                    have l1 := (Array.getElem?_eq_some_iff.1 j6).1
                    have l2 := (Array.getElem?_eq_some_iff.1 j7).1
                    have hil : i < l.length := by
                      rcases Nat.lt_or_ge i l.length with h | h
                      · exact h
                      · rcases ends_of OV.out LEN.out with ⟨h', _⟩ | ⟨_, h'⟩
                        · omega
                        · rcases Nat.lt_or_ge l.length i with h'' | h''
                          · exact (h'.2 (hg _ h'')).elim
                          · obtain rfl : i = l.length := by omega
                            exact (h'.2 hgo).elim
                    obtain ⟨⟨off, x, vq, d⟩, hq⟩ : ∃ q, l[i]? = some q := ⟨l[i], List.getElem?_eq_getElem hil⟩
                    obtain ⟨-, u1, u2, u3⟩ := TO.out i _ hq
                    dsimp only at u1 u2 u3
                    subst u1 u2 u3
                    obtain ⟨aq, cq, rfl, -, -, -, -, -⟩ := hO.slice
                    refine YieldAt.mono (HRound.out i _ _ vq _ aq cq W0 W1 hq j1 (hgp _ _ hu) j2 (by omega) hO ((hu.block _ l1 (by omega)).trans j6) ((hu.block _ l2 (by omega)).trans j7)) ?_
                    rintro e W2 ⟨W5, o, ⟨r1, r2, r3⟩, rfl, r4, r5, h⟩
                    have l5 := (Array.getElem?_eq_some_iff.1 r4).1
                    have hput : Off (fun k => k = wS.heap.size + 1) W5 (W5.putObj (wS.heap.size + 1) (.loop o)) := ⟨rfl, rfl, rfl, by simp, fun k _ hk => World.putObj_heap_other hk⟩
                    have T2 := r1.move hput (fun k hk => (HMI.out k).2 (by subst hk; omega)) AP.out
                    have HK : KeepE (loopW wS lo).heap.size ((loopW wS lo).heap.size + 7) ao' W1 (W5.putObj (wS.heap.size + 1) (.loop o)) := by
                      refine ⟨Nat.le_trans r2 hput.size, fun k k1 k2 k3 => ?_, fun g' o' e' k3 => ?_⟩
                      · exact (hput.block k (Nat.lt_of_lt_of_le k3 r2) (by omega)).trans (r3 k k3 ((HPI.out k).2 (.inr (by omega))) (by omega))
                      · have hgb := EL.gB g' o' e'
                        have hlt' : g' < n1 := EB.out g' o' e' (by have := hgo.1; omega)
                        exact (hput.block g' (Nat.lt_of_lt_of_le k3 r2) (by have := LBI.out; omega)).trans (r3 g' k3 ((HPI.out g').2 (.inl <| .inl ⟨hgb, hlt'⟩)) (by have := LBI.out; omega))
                    rcases h with ⟨rfl, hx, rfl⟩ | ⟨rfl, hx, hx3, rfl⟩
                    · exact .inl ⟨rfl, ⟨⟨T2, fun h => by have := hx h; have := j2 h; omega⟩, r4, r5⟩, HK⟩
                    · refine .inr ⟨rfl, ⟨⟨?_, hx⟩, r4, r5⟩, HK⟩
                      rw [hx3] at T2
                      exact T2
                  · exact ⟨⟨START.out, fun _ => by decide⟩, q1, q2⟩
                  · rintro e W' ⟨⟨v0, rfl⟩, h⟩
                    refine ⟨⟨v0, rfl⟩, range_or (fun Wx => ∃ N, TurnI g w5 kb bi bt1 1 wT1 (fun k => (NB ≤ k ∧ k < n1) ∨ k = D0) PP N Wx ∧ (N = l.length ∨ (1 = (0 : Int) ∧ N = 3)) ∧ Wx.heap[wS.heap.size]? = some (.deferred (some []))) ?_ ?_⟩
                    · rintro Wx ⟨N, hTI, hN, hD⟩
                      have HTI := Lib.hid hTI
                      have HDD := Lib.hid hD
                      have HN := Lib.hid hN
                      clear h hTI hD hN HRound START q1 q2 q3 q4 EL hgp hlo
                      obtain ⟨lv, z, xs, hL, hC, hi, ht, hd⟩ := HTI.out
                      have LX := Lib.hid hL
                      have DX := Lib.hid hd
                      have ci : Wx.cell? ⟨bi, 0, none⟩ = some (.int .i64 N) := cell_of_row _ _ 0 _ _ _ hi
                      have ct : Wx.cell? ⟨bt1, 0, none⟩ = some (.int .i64 1) := cell_of_row _ _ 0 _ _ _ ht
                      have cal : Wx.cell? ⟨w3.heap.size + 1, 0, none⟩ = some (.slice aa l.length ca) := cell_of_row _ _ 0 _ _ _ (HROW.out Wx hL.off).2
                      have hlow : Off (fun j => j = g) w5 Wx := hL.off
                      have BX := Lib.hid (show Below w.heap.size w Wx from hlow.below B5.out (fun k hk e => by have := GW.out; omega) B5.out.size)
                      clear hL hC hi ht hd hlow
                      obtain rfl : N = l.length := by rcases HN.out with h | h <;> omega
                      have bE := below_alloc Wx (.cells #[.int .i64 2] 3)
                      have LE := Lib.hid (LX.out.keep bE)
                      have KPE : (Wx.alloc (.cells #[.int .i64 2] 3)).cell? ⟨kb + 1, 0, none⟩ = some (.pointer (some ⟨kb, 0, none⟩)) := cell_of_row _ _ 0 _ _ _ LE.out.kp
                      have RE := Lib.hid ((bE.block w.heap.size (by have := GW.out; have := LX.out.off.size; have := GL.out; omega)).trans ((LX.out.off.block w.heap.size (heap_lt R5.out) (by have := GW.out; omega)).trans R5.out))
                      have DE1 := Lib.hid ((bE.block wS.heap.size (heap_lt HDD.out)).trans HDD.out)
                      have DE0 := Lib.hid ((bE.block D0 (DX.out D0 (.inr rfl)).1).trans ((DX.out D0 (.inr rfl)).2.trans HD0.out))
                      have BE := Lib.hid (below_trans BX.out bE)
                      have DD01 := Lib.hid (show D0 < wS.heap.size from by have := D0B.out; have := LBI.out; have := SS.out; have := HBI.out; have := BND.out; omega)
                      obtain ⟨alv, clv, hlv⟩ := row_slice LE.out.kept.list
                      subst hlv
                      clear bE
                      go_wp2_with fail
                      rw [rounds_succ]
                      go_wp2_with fail
                      refine (apart_x kb w5.heap.size alv xs.length clv z xs _ LE.out.kept rfl LE.out.short LE.out.off.size).mono ?_
                      rintro e wZ ⟨rfl, hbz⟩
                      have RZ := (hbz.b.block w.heap.size (heap_lt R5.out)).trans RE.out
                      have z0 := cell_of_row _ _ 0 _ _ _ RZ
                      have fz0 := frozen_of_row _ _ 0 _ _ RZ
                      have Z1 := hbz.nc _ _ DE1.out (fun _ _ _ e => by cases e)
                      have Z0 := hbz.nc _ _ DE0.out (fun _ _ _ e => by cases e)
                      have BZ := Lib.hid (show Below w.heap.size w (wZ.setCell ⟨w.heap.size, 0, none⟩ (.bool true)) from ((BE.out.trans (hbz.b.mono (Nat.le_of_lt (heap_lt R5.out)))).setCell (p := ⟨w.heap.size, 0, none⟩) (Nat.le_refl _) _))
                      have wne : w.heap.size < D0 := by have := D0B.out; have := BND.out; have := heap_lt R5.out; omega
                      have Y1 : (wZ.setCell ⟨w.heap.size, 0, none⟩ (.bool true)).heap[wS.heap.size]? = some (.deferred (some [])) := (Below.heap_setCell _ _ _ _ (by have := DD01.out; simp only [ne_eq]; omega)).trans Z1
                      have Y0 : (wZ.setCell ⟨w.heap.size, 0, none⟩ (.bool true)).heap[D0]? = some (.deferred (some [])) := (Below.heap_setCell _ _ _ _ (by simp only [ne_eq]; omega)).trans Z0
                      have YC : (wZ.setCell ⟨w.heap.size, 0, none⟩ (.bool true)).cell? ⟨w.heap.size, 0, none⟩ = some (.bool true) := World.cell?_setCell_same _ _ _ z0
                      have Y1H := Lib.hid Y1
                      have Y0H := Lib.hid Y0
                      have YCH := Lib.hid YC
                      clear Y1 Y0 YC Z1 Z0
                      go_wp2_with fail
                      refine noPanic_ret ?_
                      have l1 := heap_lt Y1H.out
                      have h0 : ((wZ.setCell ⟨w.heap.size, 0, none⟩ (.bool true)).putObj wS.heap.size (.deferred none)).heap[D0]? = some (.deferred (some [])) := (World.putObj_heap_other (by have := DD01.out; omega)).trans Y0H.out
                      have l0 := heap_lt h0
                      refine ⟨by simp, .inl ⟨_, _, rfl, run_takeDeferred Y1H.out, ?_⟩⟩
                      refine ⟨by simp, .inl ⟨_, _, rfl, run_takeDeferred h0, ?_⟩⟩
                      have hc1 := (World.cell?_of_block (a := ⟨w.heap.size, 0, none⟩) (show ((wZ.setCell ⟨w.heap.size, 0, none⟩ (.bool true)).putObj wS.heap.size (.deferred none)).heap[w.heap.size]? = (wZ.setCell ⟨w.heap.size, 0, none⟩ (.bool true)).heap[w.heap.size]? from World.putObj_heap_other (by have := DD01.out; omega))).trans YCH.out
                      have hc2 := (World.cell?_of_block (a := ⟨w.heap.size, 0, none⟩) (show (((wZ.setCell ⟨w.heap.size, 0, none⟩ (.bool true)).putObj wS.heap.size (.deferred none)).putObj D0 (.deferred none)).heap[w.heap.size]? = ((wZ.setCell ⟨w.heap.size, 0, none⟩ (.bool true)).putObj wS.heap.size (.deferred none)).heap[w.heap.size]? from World.putObj_heap_other (by omega))).trans hc1
                      have bb1 := But.below BZ.out (but_putObj _ wS.heap.size (.deferred none) l1) (by have := DD01.out; omega) BZ.out.size
                      have bb2 := But.below bb1 (but_putObj _ D0 (.deferred none) l0) (by omega) bb1.size
                      exact ⟨_, results_bool rfl _ _ w.heap.size (.bool true) rfl hc2, rfl, bb2⟩
                    · have hputS : ∀ (o : Loop), ∀ N, TurnI g w5 kb bi bt1 1 wT1 (fun k => (NB ≤ k ∧ k < n1) ∨ k = D0) PP N W' → W'.heap[wS.heap.size]? = some (.deferred (some [])) → (N = l.length ∨ (1 = (0 : Int) ∧ N = 3)) → ∃ N, TurnI g w5 kb bi bt1 1 wT1 (fun k => (NB ≤ k ∧ k < n1) ∨ k = D0) PP N (W'.putObj (wS.heap.size + 1) (.loop o)) ∧ (N = l.length ∨ (1 = (0 : Int) ∧ N = 3)) ∧ (W'.putObj (wS.heap.size + 1) (.loop o)).heap[wS.heap.size]? = some (.deferred (some [])) := fun o N hT hD hN => by
                        have hput : Off (fun k => k = wS.heap.size + 1) W' (W'.putObj (wS.heap.size + 1) (.loop o)) := ⟨rfl, rfl, rfl, by simp, fun k _ hk => World.putObj_heap_other hk⟩
                        exact ⟨N, hT.move hput (fun k hk => (HMI.out k).2 (by subst hk; omega)) AP.out, hN, (World.putObj_heap_other (by omega)).trans hD⟩
                      rcases h with ⟨i, hend, ⟨j1, j2⟩, j6, j7⟩ | ⟨⟨j1, j2⟩, j6, j7⟩
                      · refine .inl ⟨j6, hputS _ i j1 j7 (.inl ?_)⟩
                        rcases hend with ⟨k1, k2⟩ | ⟨k1, k2⟩ <;> rcases ends_of OV.out LEN.out with ⟨m1', m2'⟩ | ⟨m1', m2'⟩
                        · omega
                        · omega
                        · omega
                        · exact k2.uniq m2'
                      · exact .inr ⟨j6, hputS _ 3 j1 j7 (.inr ⟨j2, rfl⟩)⟩
              · have hputS : ∀ (o : Loop), ∀ N, TurnI g w5 kb bi bt 0 wT (fun k => NB ≤ k ∧ k < n1) PP N W' → W'.heap[wS.heap.size]? = some (.deferred (some [])) → (N = l.length ∨ (0 = (0 : Int) ∧ N = 3)) → ∃ N, TurnI g w5 kb bi bt 0 wT (fun k => NB ≤ k ∧ k < n1) PP N (W'.putObj (wS.heap.size + 1) (.loop o)) ∧ (N = l.length ∨ (0 = (0 : Int) ∧ N = 3)) ∧ (W'.putObj (wS.heap.size + 1) (.loop o)).heap[wS.heap.size]? = some (.deferred (some [])) := fun o N hT hD hN => by
                  have hput : Off (fun k => k = wS.heap.size + 1) W' (W'.putObj (wS.heap.size + 1) (.loop o)) := ⟨rfl, rfl, rfl, by simp, fun k _ hk => World.putObj_heap_other hk⟩
                  exact ⟨N, hT.move hput (fun k hk => (HMI.out k).2 (by subst hk; omega)) AP.out, hN, (World.putObj_heap_other (by omega)).trans hD⟩
                rcases h with ⟨i, hend, ⟨j1, j2⟩, j6, j7⟩ | ⟨⟨j1, j2⟩, j6, j7⟩
                · refine .inl ⟨j6, hputS _ i j1 j7 (.inl ?_)⟩
                  rcases hend with ⟨k1, k2⟩ | ⟨k1, k2⟩ <;> rcases ends_of OV.out LEN.out with ⟨m1', m2'⟩ | ⟨m1', m2'⟩
                  · omega
                  · omega
                  · omega
                  · exact k2.uniq m2'
                · exact .inr ⟨j6, hputS _ 3 j1 j7 (.inr ⟨j2, rfl⟩)⟩
end Go.Proofs.Ytfadpjljokpenaa

/- Lists of int64 in the call's own memory. -/
import Derived.Test.YtmkljmljbbijeaaSegsOwn
namespace Go.Proofs.Ytmkljmljbbijeaa
open Go.RowKit

set_option maxRecDepth 100000 in
theorem Try.infoI64 : (Try.prog.info? 2).map (fun i => (i.zero, i.size, i.bytes)) = some (some (.int .i64 0), 1, 8) := by kernel_rfl
def ints (l : List Int) : List Value := l.map (.int .i64 ·)
def OwnI (w : World) (base : Nat) (v : Value) (l : List Int) : Prop := w.ownsRow base 2 1 v l.length (ints l)
theorem OwnI.nil (w : World) (base : Nat) : OwnI w base (.slice none 0 0) [] := World.ownsRow_nil w base _ 1
theorem OwnI.keep {w w' : World} {base : Nat} {v : Value} {L : List Int} (h : OwnI w base v L) (hb : Below w.heap.size w w') : OwnI w' base v L :=
  rows_congr h fun g hg => by
    obtain ⟨-, cur, hc⟩ := rows_blk h hg
    exact hb.block g (heap_lt hc)
theorem OwnI.base {w : World} {base base' : Nat} {v : Value} {L : List Int} (h : OwnI w base v L) (hb : base' ≤ base) : OwnI w base' v L :=
  ⟨h.1, by
    rcases h.2 with h0 | ⟨g, cap, cur, e, hg, r⟩
    · exact .inl h0
    · exact .inr ⟨g, cap, cur, e, Nat.le_trans hb hg, r⟩⟩
theorem OwnS.base {w : World} {base base' : Nat} {v : Value} {L : List SegV} (h : OwnS w base v L) (hb : base' ≤ base) : OwnS w base' v L :=
  ⟨h.1, by
    rcases h.2 with h0 | ⟨g, cap, cur, e, hg, r⟩
    · exact .inl h0
    · exact .inr ⟨g, cap, cur, e, Nat.le_trans hb hg, r⟩⟩
/-- Append: one number, laid in a block of its own. -/
theorem wpList_append_i64 {w : World} {ops : Array Oper} {rest : List Oper} {o : Oper} {a : Act} {Q : Exit → Act → World → Prop} (hgd : o.guard = none) (s x : Operand)
    (ho : o.op = .call { callee := .builtin .append, args := #[s, x], argTypes := #[41, 41] })
    (base : Nat) (v : Value) (l : List Int) (hs : a.eval s = v) (hown : OwnI w base v l)
    (ad : Addr) (y : Int) (hx : a.eval x = .slice (some ad) 1 1) (hy : ∀ j u, [Value.int .i64 y][j]? = some u → w.cell? (ad.add j) = some u)
    (hlen : l.length ≤ 1099511627776) (hbase : base ≤ w.heap.size)
    (h : ∀ v' w', OwnI w' base v' (l ++ [y]) → w.grownBy w' v.ownBlock → wpList Try.prog ops Q rest (a.put o.dst v') w') : wpList Try.prog ops Q (o :: rest) a w := by
  obtain ⟨i, hi, hz0, hz1, hz2⟩ := info_parts Try.infoI64
  refine wpList_append_own_at (w := w) hgd s x 41 ho base 2 i (.int .i64 0) 1 8 Try.underlying41 hi hz0 hz1 hz2 rfl (by decide) v l.length (ints l) hs hown ad 1 1 [.int .i64 y] hx rfl hy (by intro u hu; rw [List.mem_singleton.1 hu]; rfl)
    (by simp only [maxLen]; omega) (by omega) hbase ?_
  intro v' w' h1 h2 h3 h4
  refine h v' w' ?_ h2
  unfold OwnI
  rw [List.length_append]
  simpa [ints] using h1
end Go.Proofs.Ytmkljmljbbijeaa

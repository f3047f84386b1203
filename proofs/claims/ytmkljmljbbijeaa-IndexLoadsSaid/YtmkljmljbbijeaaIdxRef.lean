/- The document's index: New, Add, Find, Cut walked. -/
import Derived.Test.YtmkljmljbbijeaaIdx
namespace Go.Proofs.Ytmkljmljbbijeaa
open Go.RowKit

/-- The document's index in memory. -/
structure RefAt (w : World) (base yb : Nat) (X : IdxV) (ao : Option Addr) (n cap : Nat) : Prop where
  row : w.heap[yb]? = some (.cells #[.int .i64 X.step, .slice ao n cap, .int .i64 X.last.lsn, .int .i64 X.last.off] 81 (0, 0))
  own : OwnE w base (.slice ao n cap) X.l
  low : base ≤ yb
theorem RefAt.keep {w w' : World} {base yb : Nat} {X : IdxV} {ao : Option Addr} {n cap : Nat} (h : RefAt w base yb X ao n cap) (hb : Below w.heap.size w w') : RefAt w' base yb X ao n cap :=
  ⟨(hb.block _ (heap_lt h.row)).trans h.row, h.own.keep hb, h.low⟩
theorem RefAt.move {w w' : World} {base yb : Nat} {X : IdxV} {ao : Option Addr} {n cap : Nat} (h : RefAt w base yb X ao n cap) (hm : ∀ q, q = yb ∨ (Value.slice ao n cap).ownBlock = some q → w'.heap[q]? = w.heap[q]?) : RefAt w' base yb X ao n cap :=
  ⟨(hm yb (.inl rfl)).trans h.row, rows_congr h.own fun q hq => hm q (.inr hq), h.low⟩
theorem RefAt.len {w : World} {base yb : Nat} {X : IdxV} {ao : Option Addr} {n cap : Nat} (h : RefAt w base yb X ao n cap) : X.l.length = n ∧ n ≤ cap ∧ cap ≤ maxLen ∧ EntsAt w ao X.l ∧ (ao = none → cap = 0) := (HeldE.of_own h.own).len
theorem own_row_ne {w : World} {base yb : Nat} {v : Value} {L : List EntV} {cs : Array Value} {f : Nat × Nat} (h : OwnE w base v L) (hr : w.heap[yb]? = some (.cells cs 81 f)) : v.ownBlock ≠ some yb := fun e => by
  obtain ⟨-, c, hc⟩ := rows_blk h e
  rw [hr] at hc
  simp at hc
structure RefR (yb : Nat) (lsn off : Int) (v : Value) (w : World) : Prop where
  x1 : w.cell? ⟨yb, 1, none⟩ = some v
  x2 : w.cell? ⟨yb, 2, none⟩ = some (.int .i64 lsn)
  x3 : w.cell? ⟨yb, 3, none⟩ = some (.int .i64 off)
theorem RefR.below {yb : Nat} {lsn off : Int} {v : Value} {w w' : World} (h : RefR yb lsn off v w) (hb : Below w.heap.size w w') : RefR yb lsn off v w' := ⟨cell_keep hb h.x1, cell_keep hb h.x2, cell_keep hb h.x3⟩
theorem refR_row {w : World} {yb : Nat} {st lsn off : Int} {v : Value} (h : w.heap[yb]? = some (.cells #[.int .i64 st, v, .int .i64 lsn, .int .i64 off] 81 (0, 0))) : RefR yb lsn off v w := ⟨cell_of_row _ _ 1 _ _ _ h, cell_of_row _ _ 2 _ _ _ h, cell_of_row _ _ 3 _ _ _ h⟩
theorem set_sz (W : World) (a : Addr) (u : Value) : (W.setCell a u).heap.size = W.heap.size := by simp [World.setCell]
structure RPushed (w0 w3 : World) (base yb : Nat) (X : IdxV) (ao : Option Addr) (n ca : Nat) (e : EntV) (a3 : Option Addr) (n3 c3 : Nat) : Prop where
  row : w3.heap[yb]? = some (.cells #[.int .i64 X.step, .slice ao n ca, .int .i64 X.last.lsn, .int .i64 X.last.off] 81 (0, 0))
  at' : RefAt (w3.setCell ⟨yb, 1, none⟩ (.slice a3 n3 c3)) base yb ⟨X.step, X.l ++ [e], X.told, X.last⟩ a3 n3 c3
  turned : Turned w0 (w3.setCell ⟨yb, 1, none⟩ (.slice a3 n3 c3)) yb (.slice ao n ca) (.slice a3 n3 c3)
theorem ref_push {w0 w w3 : World} {base yb : Nat} {X : IdxV} {ao : Option Addr} {n ca : Nat} {e : EntV} {a3 : Option Addr} {n3 c3 : Nat} (hb : Below w0.heap.size w0 w) (H : RefAt w base yb X ao n ca)
    (ho : OwnE w3 base (.slice a3 n3 c3) (X.l ++ [e])) (hg : w.grownBy w3 (Value.slice ao n ca).ownBlock) (hw : ∀ j, (Value.slice a3 n3 c3).ownBlock = some j → (Value.slice ao n ca).ownBlock = some j ∨ w0.heap.size ≤ j) : RPushed w0 w3 base yb X ao n ca e a3 n3 c3 := by
  have hr : w3.heap[yb]? = some (.cells #[.int .i64 X.step, .slice ao n ca, .int .i64 X.last.lsn, .int .i64 X.last.off] 81 (0, 0)) := (hg.block yb (heap_lt H.row) (fun e => own_row_ne H.own H.row e.symm)).trans H.row
  refine ⟨hr, ⟨row_set hr 1 _, rows_congr ho fun q hq => far_set (fun h => own_row_ne ho hr (h ▸ hq)), H.low⟩, ⟨?_, ?_, ?_, ?_, fun q hq h1 h2 => ?_, fun j hj => hw j hj⟩⟩
  · exact (show (w3.setCell ⟨yb, 1, none⟩ (.slice a3 n3 c3)).os = w3.os from rfl).trans (hg.os.trans hb.os)
  · exact (show (w3.setCell ⟨yb, 1, none⟩ (.slice a3 n3 c3)).tape = w3.tape from rfl).trans (hg.tape.trans hb.tape)
  · exact (show (w3.setCell ⟨yb, 1, none⟩ (.slice a3 n3 c3)).output = w3.output from rfl).trans (hg.output.trans hb.output)
  · rw [set_sz]
    exact Nat.le_trans hb.size hg.size
  · exact (far_set h1).trans ((hg.block q (Nat.lt_of_lt_of_le hq hb.size) (fun e => h2 e.symm)).trans (hb.block q hq))
/-- The last frame, set. -/
theorem ref_last {w : World} {base yb : Nat} {X : IdxV} {ao : Option Addr} {n ca : Nat} (h : RefAt w base yb X ao n ca) (t : Bool) (e : EntV) :
    RefAt ((w.setCell ⟨yb, 2, none⟩ (.int .i64 e.lsn)).setCell ⟨yb, 3, none⟩ (.int .i64 e.off)) base yb ⟨X.step, X.l, t, e⟩ ao n ca ∧
    Turned w ((w.setCell ⟨yb, 2, none⟩ (.int .i64 e.lsn)).setCell ⟨yb, 3, none⟩ (.int .i64 e.off)) yb (.slice ao n ca) (.slice ao n ca) := by
  have off : ∀ q, q ≠ yb → ((w.setCell ⟨yb, 2, none⟩ (.int .i64 e.lsn)).setCell ⟨yb, 3, none⟩ (.int .i64 e.off)).heap[q]? = w.heap[q]? := fun q hq => (far_set hq).trans (far_set hq)
  refine ⟨⟨row_set (row_set h.row 2 _) 3 _, rows_congr h.own fun q hq => off q (fun e => own_row_ne h.own h.row (e ▸ hq)), h.low⟩, ⟨rfl, rfl, rfl, ?_, fun q _ h1 _ => off q h1, fun j hj => .inl hj⟩⟩
  rw [set_sz, set_sz]
  exact Nat.le_refl _

set_option maxRecDepth 100000 in
theorem ref_new_ok (s : Int) (w : World) (h1 : 1 ≤ s) (h2 : s ≤ 1048576) :
    Calls Try.prog 44 #[.int .i64 s] w fun e w' => e = .returned (.tuple #[.pointer (some ⟨w.heap.size, 0, none⟩), .int .i64 0]) ∧ RefAt w' w.heap.size w.heap.size (idx0 s) none 0 0 ∧ Below w.heap.size w w' := by
  go_enter Try.func44, Try.ntmps44
  go_wp2_with fail
  go_ret2
  exact ⟨rfl, ⟨heap_alloc_new w _, OwnE.nil _ _, Nat.le_refl _⟩, below_alloc _ _⟩
set_option maxRecDepth 100000 in
theorem ref_new_no (s : Int) (w : World) (h : ¬ (1 ≤ s ∧ s ≤ 1048576)) :
    Calls Try.prog 44 #[.int .i64 s] w fun e w' => e = .returned (.tuple #[.pointer none, .int .i64 1]) ∧ w' = w := by
  go_enter Try.func44, Try.ntmps44
  by_cases h1 : 1 ≤ s
  · have h2 : 1048576 < s := by omega
    go_wp2_with fail
    go_ret2
    exact ⟨rfl, rfl⟩
  · go_wp2_with fail
    go_ret2
    exact ⟨rfl, rfl⟩

set_option maxRecDepth 100000 in
set_option maxHeartbeats 4000000 in
theorem ref_find (base yb n ca : Nat) (X : IdxV) (ao : Option Addr) (lsn : Int) (w : World) (H : Hid (RefAt w base yb X ao n ca)) (ok : Hid (IdxOk X)) :
    Calls Try.prog 46 #[.pointer (some ⟨yb, 0, none⟩), .int .i64 lsn] w (FindB w X.l lsn) := by
  have b1 := below_alloc w (.cells #[.int .i64 0, .int .i64 0] 64)
  have n1 := heap_alloc_new w (.cells #[.int .i64 0, .int .i64 0] 64)
  obtain ⟨w1, hw1⟩ : ∃ w1, w.alloc (.cells #[.int .i64 0, .int .i64 0] 64) = w1 := ⟨_, rfl⟩
  rw [hw1] at b1 n1
  have B1 := Lib.hid b1
  have E1 := Lib.hid n1
  have H1 := Lib.hid (H.out.keep b1)
  have HN := Lib.hid H.out.len.1
  have x1 := cell_of_row _ _ 1 _ _ _ H1.out.row
  have e0 := cell_of_row _ _ 0 _ _ _ E1.out
  have e1 := cell_of_row _ _ 1 _ _ _ E1.out
  have f0 := frozen_of_row _ _ 0 _ _ E1.out
  have f1 := frozen_of_row _ _ 1 _ _ E1.out
  have n64 : (n : Int) ≤ 2147483648 := by have := ok.out.len; have := HN.out; omega
  have FIN := Lib.hid (show ∀ (en : EntV) (t : Bool), FindIs X.l lsn en t → ∀ Wd, ((w1.setCell ⟨w.heap.size, 0, none⟩ (.int .i64 en.lsn)).setCell ⟨w.heap.size, 1, none⟩ (.int .i64 en.off)) = Wd → FindB w X.l lsn (.returned (.tuple #[.agg #[.int .i64 en.lsn, .int .i64 en.off], .bool t])) Wd from fun en t h Wd e => ⟨en, t, h, rfl, by rw [← e]; exact put2_below B1.out (Nat.le_refl _) _ _⟩)
  have z1 : IntKind.i64.wrap ((n : Int) - 1) = (n : Int) - 1 := IntWalk.i64_in _ (by omega)
  clear b1 n1
  go_enter Try.func46, Try.ntmps46
  go_wp2_with fail
  go_loopw [6] (fun i wr => ∃ q : Int, -1 ≤ q ∧ q < n ∧ i = .int .i64 q ∧ Hid (w1 = wr) ∧ Hid (∀ j : Nat, q < (j : Int) → j < X.l.length → lsn < (nthE X.l j).lsn)) (fun i _ => (intOf i + 1).toNat)
  case atStart => exact ⟨(n : Int) - 1, by omega, by omega, rfl, Lib.hid rfl, Lib.hid fun j h1 h2 => by have := HN.out; omega⟩
  case round =>
    clear z1
    obtain ⟨q, hq1, hq2, rfl, hw, HQ⟩ := hrel
    have hw' := hw.out
    subst hw'
    by_cases h0 : 0 ≤ q
    · obtain ⟨m, rfl⟩ : ∃ m : Nat, q = m := ⟨q.toNat, by omega⟩
      obtain ⟨g, rfl, -, hc, -⟩ := (HeldE.of_own H1.out.own).get (i := m) (by have := HN.out; omega)
      obtain ⟨d0, d1⟩ := hc
      by_cases hl : (nthE X.l m).lsn ≤ lsn
      · have FF := Lib.hid (show FindIs X.l lsn (nthE X.l m) true from .inl ⟨m, by have := HN.out; omega, hl, fun j h1 h2 => HQ.out j (by omega) h2, rfl, rfl⟩)
        go_wp2_with fail
        refine bodyPost_ret (results_ent2 rfl _ _ w.heap.size _ _ rfl (cell_of_row _ _ 0 _ _ _ (put2 E1.out _ _)) (cell_of_row _ _ 1 _ _ _ (put2 E1.out _ _))) rfl ?_
        exact FIN.out _ _ FF.out _ rfl
      · have hl2 : decide ((nthE X.l m).lsn ≤ lsn) = false := decide_eq_false hl
        have HL := Lib.hid (show lsn < (nthE X.l m).lsn by omega)
        have z2 : IntKind.i64.wrap ((m : Int) - 1) = (m : Int) - 1 := IntWalk.i64_in _ (by omega)
        clear hl
        go_wp2_with fail
        go_roundw
        case rel => exact ⟨(m : Int) - 1, by omega, by omega, rfl, Lib.hid trivial, Lib.hid fun j h1 h2 => by
          rcases Nat.eq_or_lt_of_le (show m ≤ j by omega) with e | e
          · subst e; exact HL.out
          · exact HQ.out j (by omega) h2⟩
        case measure => simp [intOf]
    · have hq : q = -1 := by omega
      subst hq
      have FF := Lib.hid (show FindIs X.l lsn ⟨0, 0⟩ false from .inr ⟨fun j hj => HQ.out j (by omega) hj, rfl, rfl⟩)
      go_wp2_with fail
      refine bodyPost_ret (results_ent2 rfl _ _ w.heap.size _ _ rfl (cell_of_row _ _ 0 _ _ _ (put2 E1.out _ _)) (cell_of_row _ _ 1 _ _ _ (put2 E1.out _ _))) rfl ?_
      exact FIN.out ⟨0, 0⟩ _ FF.out _ rfl

set_option maxRecDepth 100000 in
set_option maxHeartbeats 4000000 in
theorem ref_add_arg (yb : Nat) (lsn off : Int) (w : World) (h : BadArg lsn off) :
    Calls Try.prog 45 #[.pointer (some ⟨yb, 0, none⟩), .int .i64 lsn, .int .i64 off] w fun e w' => e = .returned (.int .i64 1) ∧ w = w' := by
  have HH := Lib.hid h
  clear h
  go_enter Try.func45, Try.ntmps45
  rcases HH.out with h | h | h
  · go_wp2_with fail
    go_ret
    exact ⟨rfl, rfl⟩
  · by_cases h1 : lsn < 1
    · go_wp2_with fail
      go_ret
      exact ⟨rfl, rfl⟩
    · have t1 : decide (lsn < 1) = false := decide_eq_false h1
      clear h1
      go_wp2_with fail
      go_ret
      exact ⟨rfl, rfl⟩
  · have h2 : ¬ off < 0 := by omega
    have t2 : decide (off < 0) = false := decide_eq_false h2
    have t3 : decide (2147483647 < off) = true := decide_eq_true h
    clear h2 h
    by_cases h1 : lsn < 1
    · go_wp2_with fail
      go_ret
      exact ⟨rfl, rfl⟩
    · have t1 : decide (lsn < 1) = false := decide_eq_false h1
      clear h1
      go_wp2_with fail
      go_ret
      exact ⟨rfl, rfl⟩
set_option maxRecDepth 100000 in
set_option maxHeartbeats 4000000 in
theorem ref_add_order (yb : Nat) (ll lo lsn off : Int) (w : World) (x2 : w.cell? ⟨yb, 2, none⟩ = some (.int .i64 ll)) (x3 : w.cell? ⟨yb, 3, none⟩ = some (.int .i64 lo))
    (r : 1 ≤ ll ∧ ll ≤ 9223372036854775807) (h1 : 1 ≤ lsn) (h0 : lsn ≤ 9223372036854775807) (h2 : 0 ≤ off) (h3 : off ≤ 2147483647) (h : lsn ≠ ll + 1 ∨ off ≤ lo) :
    Calls Try.prog 45 #[.pointer (some ⟨yb, 0, none⟩), .int .i64 lsn, .int .i64 off] w fun e w' => e = .returned (.int .i64 63) ∧ w = w' := by
  have HH := Lib.hid h
  have RR := Lib.hid r
  have t1 : decide (lsn < 1) = false := decide_eq_false (by omega)
  have t2 : decide (off < 0) = false := decide_eq_false (by omega)
  have t3 : decide (2147483647 < off) = false := decide_eq_false (by omega)
  have t4 : decide (0 < ll) = true := decide_eq_true (by omega)
  have z2 : IntKind.i64.wrap (lsn - 1) = lsn - 1 := IntWalk.i64_in _ (by omega)
  clear h r h1 h2 h3 h0
  go_enter Try.func45, Try.ntmps45
  by_cases q2 : lsn - 1 = ll
  · have z3 : (lsn - 1 != ll) = false := by simp [q2]
    have z4 : decide (off ≤ lo) = true := decide_eq_true (by have := HH.out; omega)
    clear q2
    go_wp2_with fail
    go_ret
    exact ⟨rfl, rfl⟩
  · have z3 : (lsn - 1 != ll) = true := by simp [q2]
    clear q2
    go_wp2_with fail
    go_ret
    exact ⟨rfl, rfl⟩
set_option maxRecDepth 100000 in
set_option maxHeartbeats 4000000 in
theorem ref_add_first (base yb n ca : Nat) (st : Int) (L : List EntV) (ao : Option Addr) (lsn off : Int) (w : World) (H : Hid (RefAt w base yb ⟨st, L, false, ⟨0, 0⟩⟩ ao n ca)) (ok : Hid (IdxOk ⟨st, L, false, ⟨0, 0⟩⟩)) (HB : Hid (base ≤ w.heap.size)) (h1 : 1 ≤ lsn) (h2 : 0 ≤ off) (h3 : off ≤ 2147483647) :
    Calls Try.prog 45 #[.pointer (some ⟨yb, 0, none⟩), .int .i64 lsn, .int .i64 off] w fun e w' => ∃ ao' n' ca', e = .returned (.int .i64 0) ∧ RefAt w' base yb ⟨st, L ++ [⟨lsn, off⟩], true, ⟨lsn, off⟩⟩ ao' n' ca' ∧ Turned w w' yb (.slice ao n ca) (.slice ao' n' ca') := by
  have hL0 : L.length = 0 := by have := ok.out.told; simp at this; simp [this]
  obtain rfl : n = 0 := by have := H.out.len.1; dsimp only at this; omega
  have HLL : Hid ((⟨st, L, true, ⟨lsn, off⟩⟩ : IdxV).l.length ≤ 8796093022207) := Lib.hid (by dsimp only; omega)
  have R5 := Lib.hid (ref_last H.out true ⟨lsn, off⟩)
  have x2 := cell_of_row _ _ 2 _ _ _ H.out.row
  have x3 := cell_of_row _ _ 3 _ _ _ H.out.row
  have f2 := frozen_of_row _ _ 2 _ _ H.out.row
  have f3 := frozen_of_row _ _ 3 _ _ H.out.row
  have y1 := cell_of_row _ _ 1 _ _ _ H.out.row
  have t1 : decide (lsn < 1) = false := decide_eq_false (by omega)
  have t2 : decide (off < 0) = false := decide_eq_false (by omega)
  have t3 : decide (2147483647 < off) = false := decide_eq_false (by omega)
  dsimp only at x2 x3 y1
  clear h1 h2 h3 hL0
  go_enter Try.func45, Try.ntmps45
  go_wp2_with fail
  go_quiet (fail)
  have HQ := Lib.hid (show RefAt ((((w.setCell ⟨yb, 2, none⟩ (.int .i64 lsn)).setCell ⟨yb, 3, none⟩ (.int .i64 off))).drewN nq) base yb ⟨st, L, true, ⟨lsn, off⟩⟩ ao 0 ca from R5.out.1.keep (below_drewN _ _))
  have TQ := Lib.hid (show Turned w ((((w.setCell ⟨yb, 2, none⟩ (.int .i64 lsn)).setCell ⟨yb, 3, none⟩ (.int .i64 off))).drewN nq) yb (.slice ao 0 ca) (.slice ao 0 ca) from R5.out.2.trans (Turned.of_below _ _ (below_drewN _ _)))
  obtain ⟨w7, hw7⟩ : ∃ w7, ((((w.setCell ⟨yb, 2, none⟩ (.int .i64 lsn)).setCell ⟨yb, 3, none⟩ (.int .i64 off))).drewN nq) = w7 := ⟨_, rfl⟩
  rw [hw7] at HQ TQ
  rw [hw7]
  have H7 := HQ
  have HB7 := Lib.hid (show base ≤ w7.heap.size from Nat.le_trans HB.out TQ.out.size)
  clear hw7 x2 x3 f2 f3 y1 R5 HQ
  go_wp2_with fail
  have q0 : ∀ p : In (RefR yb lsn off (.slice ao 0 ca)), p.w.cell? ⟨yb, 1, none⟩ = some (.slice ao 0 ca) := fun p => p.h.x1
  have q1 : ∀ p : In (RefR yb lsn off (.slice ao 0 ca)), p.w.cell? ⟨yb, 2, none⟩ = some (.int .i64 lsn) := fun p => p.h.x2
  have q2 : ∀ p : In (RefR yb lsn off (.slice ao 0 ca)), p.w.cell? ⟨yb, 3, none⟩ = some (.int .i64 off) := fun p => p.h.x3
  refine wp_region_mixed_tail [0, 1, 2, 3, 4, 5, 6, 7, 8, 9, 10, 11, 12] 13 (RefR yb lsn off (.slice ao 0 ca)) (by kernel_rfl) (by kernel_rfl) (by intro c a d v w h; cases d <;> exact h) ((refR_row H7.out.row).below (below_drew _)) ?_
  intro hne
  simp only [pick, List.map_cons, List.map_nil, List.getD_cons_zero, List.getD_cons_succ, List.drop_succ_cons, List.drop_zero]
  refine wpMix_reads 9 _ (by kernel_rfl) ?_
  simp only [List.take_succ_cons, List.take_zero, List.drop_succ_cons, List.drop_zero]
  repeat (go_big_quiet_step (fail))
  refine wpQuiet_nil ?_
  refine wpMix_act rfl ?_ rfl
  go_wp2_with fail
  have B8 := Lib.hid (below_trans (below_drew w7) (below_alloc w7.drew (.cells #[.int .i64 lsn, .int .i64 off] 64)))
  have NC := Lib.hid (ent_new w7.drew ⟨lsn, off⟩)
  have H8 := Lib.hid (H7.out.keep B8.out)
  refine ⟨⟨⟨_, refR_row H8.out.row⟩, rfl⟩, ?_⟩
  refine wpMix_act rfl ?_ rfl
  go_wp2_with (refine wpList_append_ent (o := ⟨some 86, _, _, _, _, _⟩) rfl _ _ rfl base (.slice ao 0 ca) _ rfl H8.out.own _ ⟨lsn, off⟩ rfl NC.out HLL.out (Nat.le_trans HB7.out B8.out.size) ?_)
  intro v3 w3 ho3 hg3 hw3
  obtain ⟨a3, c3, hv3, -⟩ := (HeldE.of_own ho3).shape
  obtain ⟨n3, hn3⟩ : ∃ n3, ((⟨st, L, true, ⟨lsn, off⟩⟩ : IdxV).l ++ [(⟨lsn, off⟩ : EntV)]).length = n3 := ⟨_, rfl⟩
  rw [show ((⟨st, L, true, ⟨lsn, off⟩⟩ : IdxV).l ++ [(⟨lsn, off⟩ : EntV)]).length = n3 from hn3] at hv3
  subst hv3
  have P3 := Lib.hid (ref_push B8.out H8.out ho3 hg3 (fun j hj => (hw3 j hj).imp id fun h => by omega))
  have k1 := cell_of_row _ _ 1 _ _ _ P3.out.row
  have f1 := frozen_of_row _ _ 1 _ _ P3.out.row
  clear ho3 hg3 hw3 hn3
  go_wp2_with fail
  refine ⟨⟨⟨_, refR_row P3.out.row⟩, rfl⟩, ?_⟩
  refine wpMix_reads 2 _ (by kernel_rfl) ?_
  simp only [List.take_succ_cons, List.take_zero, List.drop_succ_cons, List.drop_zero]
  repeat (go_big_quiet_step (fail))
  refine wpQuiet_nil ?_
  refine wpMix_nil ?_
  clear hne q0 q1 q2
  change wpList _ _ _ _ _ _
  go_wp2_with fail
  go_ret
  exact ⟨a3, n3, c3, rfl, P3.out.at', TQ.out.trans P3.out.turned⟩
def RMoreB (w : World) (base yb : Nat) (st : Int) (L : List EntV) (lsn off : Int) (v : Value) (e : Ending) (w' : World) : Prop :=
  ∃ L' ao' n' ca', (st ≤ off - (lastE L).off ∧ L' = L ++ [⟨lsn, off⟩] ∨ ¬ st ≤ off - (lastE L).off ∧ L' = L) ∧ e = .returned (.int .i64 0) ∧ RefAt w' base yb ⟨st, L', true, ⟨lsn, off⟩⟩ ao' n' ca' ∧ Turned w w' yb v (.slice ao' n' ca')
set_option maxRecDepth 100000 in
set_option maxHeartbeats 8000000 in
theorem ref_add_more (base yb n ca : Nat) (st ll lo : Int) (L : List EntV) (ao : Option Addr) (lsn off : Int) (w : World) (H : Hid (RefAt w base yb ⟨st, L, true, ⟨ll, lo⟩⟩ ao n ca)) (ok : Hid (IdxOk ⟨st, L, true, ⟨ll, lo⟩⟩)) (HB : Hid (base ≤ w.heap.size)) (h1 : 1 ≤ lsn) (h0 : lsn ≤ 9223372036854775807) (h2 : 0 ≤ off) (h3 : off ≤ 2147483647)
    (g2 : lsn = ll + 1) (g3 : lo < off) :
    Calls Try.prog 45 #[.pointer (some ⟨yb, 0, none⟩), .int .i64 lsn, .int .i64 off] w (RMoreB w base yb st L lsn off (.slice ao n ca)) := by
  have hL0 : 1 ≤ L.length := ok.out.told.1 rfl
  have hn0 := H.out.len.1
  dsimp only at hn0
  obtain ⟨m, rfl⟩ : ∃ m, n = m + 1 := ⟨n - 1, by omega⟩
  have HLL : Hid ((⟨st, L, true, ⟨lsn, off⟩⟩ : IdxV).l.length ≤ 8796093022207) := Lib.hid (by have := ok.out.len; dsimp only at *; omega)
  have HE := ok.out.ent m (by dsimp only; omega)
  obtain ⟨e0, he0⟩ : ∃ e0, nthE L m = e0 := ⟨_, rfl⟩
  have HL1 := Lib.hid (show lastE L = e0 from by unfold lastE; rw [hn0, Nat.add_sub_cancel, he0])
  have R5 := Lib.hid (ref_last H.out true ⟨lsn, off⟩)
  obtain ⟨g, rfl, -, hc, -⟩ := (HeldE.of_own H.out.own).get (i := m) (by dsimp only; omega)
  have c1 : w.cell? ⟨g, m * 2 + 1, none⟩ = some (.int .i64 e0.off) := by rw [← he0]; exact hc.c1
  have gx : g ≠ yb := fun e => own_row_ne H.out.own H.out.row (by rw [e]; rfl)
  have gx2 : yb ≠ g := fun e => gx e.symm
  dsimp only at HE
  rw [he0] at HE
  have x2 := cell_of_row _ _ 2 _ _ _ H.out.row
  have x3 := cell_of_row _ _ 3 _ _ _ H.out.row
  have f2 := frozen_of_row _ _ 2 _ _ H.out.row
  have f3 := frozen_of_row _ _ 3 _ _ H.out.row
  have y0 := cell_of_row _ _ 0 _ _ _ H.out.row
  have y1 := cell_of_row _ _ 1 _ _ _ H.out.row
  have t1 : decide (lsn < 1) = false := decide_eq_false (by omega)
  have t2 : decide (off < 0) = false := decide_eq_false (by omega)
  have t3 : decide (2147483647 < off) = false := decide_eq_false (by omega)
  have lr := ok.out.low rfl
  dsimp only at x2 x3 y0 y1 lr
  have t4 : decide (0 < ll) = true := decide_eq_true (by omega)
  have z2 : IntKind.i64.wrap (lsn - 1) = lsn - 1 := IntWalk.i64_in _ (by omega)
  have z3 : (lsn - 1 != ll) = false := by simp; omega
  have z4 : decide (off ≤ lo) = false := decide_eq_false (by omega)
  have z5 : IntKind.i64.wrap (off - e0.off) = off - e0.off := IntWalk.i64_in _ (by omega)
  have z6 : ((m : Int) + 1 == 0) = false := by simp; omega
  have mz : (m : Int) ≤ 2147483648 := by have := ok.out.len; dsimp only at this; omega
  clear h1 h2 h3 h0 hL0 g2 g3 hn0 HE he0 hc lr
  go_enter Try.func45, Try.ntmps45
  by_cases hl : st ≤ off - e0.off
  · have HD := Lib.hid hl
    go_wp2_with fail
    go_quiet (fail)
    have HQ := Lib.hid (show RefAt ((((w.setCell ⟨yb, 2, none⟩ (.int .i64 lsn)).setCell ⟨yb, 3, none⟩ (.int .i64 off))).drewN nq) base yb ⟨st, L, true, ⟨lsn, off⟩⟩ (some ⟨g, 0, none⟩) (m + 1) ca from R5.out.1.keep (below_drewN _ _))
    have TQ := Lib.hid (show Turned w ((((w.setCell ⟨yb, 2, none⟩ (.int .i64 lsn)).setCell ⟨yb, 3, none⟩ (.int .i64 off))).drewN nq) yb (.slice (some ⟨g, 0, none⟩) (m + 1) ca) (.slice (some ⟨g, 0, none⟩) (m + 1) ca) from R5.out.2.trans (Turned.of_below _ _ (below_drewN _ _)))
    obtain ⟨w7, hw7⟩ : ∃ w7, ((((w.setCell ⟨yb, 2, none⟩ (.int .i64 lsn)).setCell ⟨yb, 3, none⟩ (.int .i64 off))).drewN nq) = w7 := ⟨_, rfl⟩
    rw [hw7] at HQ TQ
    rw [hw7]
    have H7 := HQ
    have HB7 := Lib.hid (show base ≤ w7.heap.size from Nat.le_trans HB.out TQ.out.size)
    clear hw7 x2 x3 f2 f3 y0 y1 R5 HQ c1 z2 z3 z4 z5 z6 hl
    go_wp2_with fail
    have q0 : ∀ p : In (RefR yb lsn off (.slice (some ⟨g, 0, none⟩) (m + 1) ca)), p.w.cell? ⟨yb, 1, none⟩ = some (.slice (some ⟨g, 0, none⟩) (m + 1) ca) := fun p => p.h.x1
    have q1 : ∀ p : In (RefR yb lsn off (.slice (some ⟨g, 0, none⟩) (m + 1) ca)), p.w.cell? ⟨yb, 2, none⟩ = some (.int .i64 lsn) := fun p => p.h.x2
    have q2 : ∀ p : In (RefR yb lsn off (.slice (some ⟨g, 0, none⟩) (m + 1) ca)), p.w.cell? ⟨yb, 3, none⟩ = some (.int .i64 off) := fun p => p.h.x3
    refine wp_region_mixed_tail [0, 1, 2, 3, 4, 5, 6, 7, 8, 9, 10, 11, 12] 13 (RefR yb lsn off (.slice (some ⟨g, 0, none⟩) (m + 1) ca)) (by kernel_rfl) (by kernel_rfl) (by intro c a d v w h; cases d <;> exact h) ((refR_row H7.out.row).below (below_drew _)) ?_
    intro hne
    simp only [pick, List.map_cons, List.map_nil, List.getD_cons_zero, List.getD_cons_succ, List.drop_succ_cons, List.drop_zero]
    refine wpMix_reads 9 _ (by kernel_rfl) ?_
    simp only [List.take_succ_cons, List.take_zero, List.drop_succ_cons, List.drop_zero]
    repeat (go_big_quiet_step (fail))
    refine wpQuiet_nil ?_
    refine wpMix_act rfl ?_ rfl
    go_wp2_with fail
    have B8 := Lib.hid (below_trans (below_drew w7) (below_alloc w7.drew (.cells #[.int .i64 lsn, .int .i64 off] 64)))
    have NC := Lib.hid (ent_new w7.drew ⟨lsn, off⟩)
    have H8 := Lib.hid (H7.out.keep B8.out)
    refine ⟨⟨⟨_, refR_row H8.out.row⟩, rfl⟩, ?_⟩
    refine wpMix_act rfl ?_ rfl
    go_wp2_with (refine wpList_append_ent (o := ⟨some 86, _, _, _, _, _⟩) rfl _ _ rfl base (.slice (some ⟨g, 0, none⟩) (m + 1) ca) _ rfl H8.out.own _ ⟨lsn, off⟩ rfl NC.out HLL.out (Nat.le_trans HB7.out B8.out.size) ?_)
    intro v3 w3 ho3 hg3 hw3
    obtain ⟨a3, c3, hv3, -⟩ := (HeldE.of_own ho3).shape
    obtain ⟨n3, hn3⟩ : ∃ n3, ((⟨st, L, true, ⟨lsn, off⟩⟩ : IdxV).l ++ [(⟨lsn, off⟩ : EntV)]).length = n3 := ⟨_, rfl⟩
    rw [show ((⟨st, L, true, ⟨lsn, off⟩⟩ : IdxV).l ++ [(⟨lsn, off⟩ : EntV)]).length = n3 from hn3] at hv3
    subst hv3
    have P3 := Lib.hid (ref_push B8.out H8.out ho3 hg3 (fun j hj => (hw3 j hj).imp id fun h => by omega))
    have k1 := cell_of_row _ _ 1 _ _ _ P3.out.row
    have f1 := frozen_of_row _ _ 1 _ _ P3.out.row
    clear ho3 hg3 hw3 hn3
    go_wp2_with fail
    refine ⟨⟨⟨_, refR_row P3.out.row⟩, rfl⟩, ?_⟩
    refine wpMix_reads 2 _ (by kernel_rfl) ?_
    simp only [List.take_succ_cons, List.take_zero, List.drop_succ_cons, List.drop_zero]
    repeat (go_big_quiet_step (fail))
    refine wpQuiet_nil ?_
    refine wpMix_nil ?_
    clear hne q0 q1 q2
    change wpList _ _ _ _ _ _
    go_wp2_with fail
    go_ret
    exact ⟨_, a3, n3, c3, .inl ⟨by rw [HL1.out]; exact HD.out, rfl⟩, rfl, P3.out.at', TQ.out.trans P3.out.turned⟩
  · have HD := Lib.hid hl
    have hl2 : decide (st ≤ off - e0.off) = false := decide_eq_false hl
    clear hl
    go_wp2_with fail
    go_quiet (fail)
    have HQ := Lib.hid (show RefAt ((((w.setCell ⟨yb, 2, none⟩ (.int .i64 lsn)).setCell ⟨yb, 3, none⟩ (.int .i64 off))).drewN nq) base yb ⟨st, L, true, ⟨lsn, off⟩⟩ (some ⟨g, 0, none⟩) (m + 1) ca from R5.out.1.keep (below_drewN _ _))
    have TQ := Lib.hid (show Turned w ((((w.setCell ⟨yb, 2, none⟩ (.int .i64 lsn)).setCell ⟨yb, 3, none⟩ (.int .i64 off))).drewN nq) yb (.slice (some ⟨g, 0, none⟩) (m + 1) ca) (.slice (some ⟨g, 0, none⟩) (m + 1) ca) from R5.out.2.trans (Turned.of_below _ _ (below_drewN _ _)))
    go_wp2_with fail
    go_ret
    exact ⟨_, _, _, _, .inr ⟨by rw [HL1.out]; have := HD.out; omega, rfl⟩, rfl, HQ.out, TQ.out⟩
def RAddB (w : World) (base yb : Nat) (X : IdxV) (lsn off : Int) (v : Value) (e : Ending) (w' : World) : Prop := ∃ Y er ao' n' ca', AddIs X lsn off Y er ∧ e = .returned (.int .i64 er) ∧ RefAt w' base yb Y ao' n' ca' ∧ Turned w w' yb v (.slice ao' n' ca')
/-- Add. -/
theorem ref_add (base yb n ca : Nat) (X : IdxV) (ao : Option Addr) (lsn off : Int) (w : World) (H : Hid (RefAt w base yb X ao n ca)) (ok : Hid (IdxOk X)) (HB : Hid (base ≤ w.heap.size)) (hm : lsn ≤ 9223372036854775807) :
    Calls Try.prog 45 #[.pointer (some ⟨yb, 0, none⟩), .int .i64 lsn, .int .i64 off] w (RAddB w base yb X lsn off (.slice ao n ca)) := by
  obtain ⟨st, L, t, ⟨ll, lo⟩⟩ := X
  by_cases hA : BadArg lsn off
  · refine (ref_add_arg yb lsn off w hA).mono ?_
    rintro e w' ⟨rfl, rfl⟩
    exact ⟨_, _, _, _, _, .inl ⟨hA, rfl, rfl⟩, rfl, H.out, Turned.of_below _ _ (Below.refl _ _)⟩
  · have hA2 : 1 ≤ lsn ∧ 0 ≤ off ∧ off ≤ 2147483647 := by unfold BadArg at hA; omega
    cases t with
    | false =>
      have hz : (⟨ll, lo⟩ : EntV) = ⟨0, 0⟩ := ok.out.none rfl
      injection hz with hz1 hz2
      subst hz1 hz2
      have hl : L.length = 0 := by
        rcases Nat.eq_zero_or_pos L.length with h | h
        · exact h
        · have := ok.out.told.2 h; cases this
      refine (ref_add_first base yb n ca st L ao lsn off w H ok HB hA2.1 hA2.2.1 hA2.2.2).mono ?_
      rintro e w' ⟨ao', n', ca', rfl, h1, h2⟩
      exact ⟨_, _, _, _, _, .inr (.inr (.inl ⟨hA, fun h => (by cases h.1), .inl hl, rfl, rfl⟩)), rfl, h1, h2⟩
    | true =>
      have hlr : 1 ≤ ll ∧ ll ≤ 9223372036854775807 := ⟨ok.out.low rfl, ok.out.lsn.2⟩
      by_cases hO : BadOrder ⟨st, L, true, ⟨ll, lo⟩⟩ lsn off
      · have hO1 := hO.2
        dsimp only at hO1
        refine (ref_add_order yb ll lo lsn off w (cell_of_row _ _ 2 _ _ _ H.out.row) (cell_of_row _ _ 3 _ _ _ H.out.row) hlr hA2.1 hm hA2.2.1 hA2.2.2 (by omega)).mono ?_
        rintro e w' ⟨rfl, rfl⟩
        exact ⟨_, _, _, _, _, .inr (.inl ⟨hA, hO, rfl, rfl⟩), rfl, H.out, Turned.of_below _ _ (Below.refl _ _)⟩
      · have hO2 : lsn = ll + 1 ∧ lo < off := by
          unfold BadOrder at hO
          simp only [true_and, not_or] at hO
          omega
        refine (ref_add_more base yb n ca st ll lo L ao lsn off w H ok HB hA2.1 hm hA2.2.1 hA2.2.2 hO2.1 hO2.2).mono ?_
        rintro e w' ⟨L', ao', n', ca', hL, rfl, h1, h2⟩
        have h0 : 1 ≤ L.length := ok.out.told.1 rfl
        rcases hL with ⟨h3, rfl⟩ | ⟨h3, rfl⟩
        · exact ⟨_, _, _, _, _, .inr (.inr (.inl ⟨hA, hO, .inr h3, rfl, rfl⟩)), rfl, h1, h2⟩
        · exact ⟨_, _, _, _, _, .inr (.inr (.inr ⟨hA, hO, (by unfold LaidE; dsimp only; omega), rfl, rfl⟩)), rfl, h1, h2⟩
end Go.Proofs.Ytmkljmljbbijeaa

/-! The document's index: Cut walked. -/
namespace Go.Proofs.Ytmkljmljbbijeaa
open Go.RowKit

/-- The list, set. -/
theorem ref_list {w : World} {base yb : Nat} {X : IdxV} {ao : Option Addr} {n ca m : Nat} (h : RefAt w base yb X ao n ca) (hm : m ≤ n) :
    RefAt (w.drew.setCell ⟨yb, 1, none⟩ (.slice ao m ca)) base yb ⟨X.step, X.l.take m, X.told, X.last⟩ ao m ca ∧ Turned w (w.drew.setCell ⟨yb, 1, none⟩ (.slice ao m ca)) yb (.slice ao n ca) (.slice ao m ca) := by
  have hc := h.own.cut hm
  have ob : (Value.slice ao m ca).ownBlock = (Value.slice ao n ca).ownBlock := by cases ao <;> rfl
  have hr : w.drew.heap[yb]? = _ := h.row
  refine ⟨⟨row_set hr 1 _, rows_congr hc fun q hq => far_set (w := w.drew) (fun e => own_row_ne hc h.row (e ▸ hq)), h.low⟩, ⟨rfl, rfl, rfl, ?_, fun q _ h1 _ => far_set (w := w.drew) h1, fun j hj => .inl (ob ▸ hj)⟩⟩
  rw [set_sz]
  exact Nat.le_refl _
/-- The last frame, set twice. -/
theorem last8 {w : World} {base yb : Nat} {X : IdxV} {ao : Option Addr} {n ca : Nat} (h : RefAt w base yb X ao n ca) (e : EntV) :
    RefAt (((((w.setCell ⟨yb, 2, none⟩ (.int .i64 0)).setCell ⟨yb, 3, none⟩ (.int .i64 0)).drew.setCell ⟨yb, 2, none⟩ (.int .i64 e.lsn))).setCell ⟨yb, 3, none⟩ (.int .i64 e.off)) base yb ⟨X.step, X.l, true, e⟩ ao n ca ∧
    Turned w (((((w.setCell ⟨yb, 2, none⟩ (.int .i64 0)).setCell ⟨yb, 3, none⟩ (.int .i64 0)).drew.setCell ⟨yb, 2, none⟩ (.int .i64 e.lsn))).setCell ⟨yb, 3, none⟩ (.int .i64 e.off)) yb (.slice ao n ca) (.slice ao n ca) := by
  have h1 := ref_last h true ⟨0, 0⟩
  have h2 := h1.1.keep (below_drew _)
  have h3 := ref_last h2 true e
  exact ⟨h3.1, h1.2.trans ((Turned.of_below _ _ (below_drew _)).trans h3.2)⟩
structure RCutR (yb g m : Nat) (v : Value) (e : EntV) (w : World) : Prop where
  x1 : w.cell? ⟨yb, 1, none⟩ = some v
  d0 : w.cell? ⟨g, m * 2, none⟩ = some (.int .i64 e.lsn)
  d1 : w.cell? ⟨g, m * 2 + 1, none⟩ = some (.int .i64 e.off)
theorem RCutR.below {yb g m : Nat} {v : Value} {e : EntV} {w w' : World} (h : RCutR yb g m v e w) (hb : Below w.heap.size w w') : RCutR yb g m v e w' := ⟨cell_keep hb h.x1, cell_keep hb h.d0, cell_keep hb h.d1⟩
/-- What the loop has cut. -/
structure RCutI (w : World) (base yb : Nat) (X : IdxV) (ao : Option Addr) (n ca m : Nat) (lsn : Int) (wr : World) : Prop where
  at' : RefAt wr base yb ⟨X.step, X.l.take m, X.told, X.last⟩ ao m ca
  turned : Turned w wr yb (.slice ao n ca) (.slice ao m ca)
  above : ∀ j, m ≤ j → j < X.l.length → lsn ≤ (nthE X.l j).lsn
def RCutQ (w : World) (base yb : Nat) (X : IdxV) (lsn : Int) (v : Value) (e : Ending) (w' : World) : Prop := ∃ Y gone ao' n' ca', CutE X lsn Y gone ∧ e = .returned (.int .i64 gone) ∧ RefAt w' base yb Y ao' n' ca' ∧ Turned w w' yb v (.slice ao' n' ca')

set_option maxRecDepth 100000 in
set_option maxHeartbeats 8000000 in
theorem ref_cut_more (base yb n ca : Nat) (X : IdxV) (ao : Option Addr) (lsn : Int) (w : World) (H : Hid (RefAt w base yb X ao n ca)) (ok : Hid (IdxOk X)) (ht : X.told = true) (hl : lsn ≤ X.last.lsn) :
    Calls Try.prog 48 #[.pointer (some ⟨yb, 0, none⟩), .int .i64 lsn] w (RCutQ w base yb X lsn (.slice ao n ca)) := by
  have HT := Lib.hid ht
  have HL := Lib.hid hl
  have x2 := cell_of_row _ _ 2 _ _ _ H.out.row
  have HN := Lib.hid H.out.len.1
  have n64 : (n : Int) ≤ 2147483648 := by have := ok.out.len; have := HN.out; omega
  have lw := ok.out.low ht
  have t1 : (X.last.lsn == 0) = false := by simp; omega
  have t2 : decide (X.last.lsn < lsn) = false := decide_eq_false (by omega)
  have S0 := Lib.hid (show RCutI w base yb X ao n ca n lsn w from ⟨⟨H.out.row, by rw [List.take_of_length_le (by have := HN.out; omega)]; exact H.out.own, H.out.low⟩, Turned.of_below _ _ (Below.refl _ _), fun j h1 h2 => by have := HN.out; omega⟩)
  clear ht hl lw
  go_enter Try.func48, Try.ntmps48
  go_wp2_with fail
  go_loopw [5] (fun i wr => ∃ j m : Nat, j + m = n ∧ i = .int .i64 j ∧ Hid (RCutI w base yb X ao n ca m lsn wr)) (fun i _ => n - (intOf i).toNat)
  case atStart => exact ⟨0, n, by omega, rfl, S0⟩
  case round =>
    clear S0 x2 t1 t2
    obtain ⟨j, m, hjm, rfl, HI⟩ := hrel
    have y1 := cell_of_row _ _ 1 _ _ _ HI.out.at'.row
    by_cases hc : ∃ p, m = p + 1 ∧ lsn ≤ (nthE X.l p).lsn
    · obtain ⟨p, rfl, hp⟩ := hc
      obtain ⟨g, rfl, -, hcc, -⟩ := (HeldE.of_own HI.out.at'.own).get (i := p) (by dsimp only; rw [List.length_take]; have := HN.out; omega)
      obtain ⟨d0, -⟩ := hcc
      dsimp only at d0
      rw [nthE_take (by omega)] at d0
      have HP := Lib.hid hp
      have HJ := Lib.hid hjm
      have mz : (p : Int) ≤ 2147483648 := by omega
      have jz : (j : Int) ≤ 2147483648 := by omega
      have pz : 0 < (p : Int) + 1 := by omega
      have hle := HI.out.at'.len.2.1
      have pc : (p : Int) + 1 ≤ (ca : Int) := by omega
      have pc2 : (p : Int) ≤ (ca : Int) := by omega
      clear hjm hle
      go_wp2_with fail
      go_quiet (fail)
      obtain ⟨w5, hw5⟩ : ∃ w5, wr.drewN nq = w5 := ⟨_, rfl⟩
      rw [hw5]
      have b5 : Below wr.heap.size wr w5 := by rw [← hw5]; exact below_drewN _ _
      have A5 := Lib.hid (HI.out.at'.keep b5)
      have T5 := Lib.hid (HI.out.turned.trans (Turned.of_below _ _ b5))
      have R5 := Lib.hid (ref_list A5.out (m := p) (by omega))
      have k1 := cell_of_row _ _ 1 _ _ _ A5.out.row
      have f1 := frozen_of_row _ _ 1 _ _ A5.out.row
      have q0 : ∀ p' : In (fun w' => w'.cell? ⟨yb, 1, none⟩ = some (.slice (some ⟨g, 0, none⟩) (p + 1) ca)), p'.w.cell? ⟨yb, 1, none⟩ = some (.slice (some ⟨g, 0, none⟩) (p + 1) ca) := fun p' => p'.h
      clear b5 hw5 y1 d0
      go_wp2_with fail
      refine wp_region_mixed_tail [0, 1, 2, 3, 4, 5, 6, 7, 8, 9, 10, 11, 12, 13] 14 (fun w2 => w2.cell? ⟨yb, 1, none⟩ = some (.slice (some ⟨g, 0, none⟩) (p + 1) ca)) (by kernel_rfl) (by kernel_rfl) (by intro c a d v w h; cases d <;> exact h) k1 ?_
      intro hne
      simp only [pick, List.map_cons, List.map_nil, List.getD_cons_zero, List.getD_cons_succ, List.drop_succ_cons, List.drop_zero]
      refine wpMix_reads 14 _ (by kernel_rfl) ?_
      simp only [List.take_succ_cons, List.take_zero, List.drop_succ_cons, List.drop_zero]
      repeat (go_big_quiet_step (fail))
      refine wpQuiet_nil ?_
      refine wpMix_nil ?_
      clear hne q0
      change wpList _ _ _ _ _ _
      go_wp2_with fail
      have NI := Lib.hid (show RCutI w base yb X (some ⟨g, 0, none⟩) n ca p lsn (w5.drew.setCell ⟨yb, 1, none⟩ (.slice (some ⟨g, 0, none⟩) p ca)) from ⟨by
        have := R5.out.1
        rw [show (X.l.take (p + 1)).take p = X.l.take p by rw [List.take_take, Nat.min_eq_left (by omega)]] at this
        exact this, T5.out.trans R5.out.2, fun i h1 h2 => by
        rcases Nat.eq_or_lt_of_le h1 with e | e
        · subst e; exact HP.out
        · exact HI.out.above i e h2⟩)
      go_roundw
      case rel => exact ⟨j + 1, p, by have := HJ.out; omega, by go_num, NI⟩
      case measure => have := HJ.out; simp [intOf]; omega
    · have HC := Lib.hid hc
      have F := Lib.hid (show FromIs X.l lsn m from ⟨by have := HN.out; omega, fun t h1 => by
        rcases Nat.eq_or_lt_of_le (show t + 1 ≤ m by omega) with e | e
        · have h2 : ¬ lsn ≤ (nthE X.l t).lsn := fun h => HC.out ⟨t, e.symm, h⟩
          omega
        · have h2 : ¬ lsn ≤ (nthE X.l (m - 1)).lsn := fun h => HC.out ⟨m - 1, by omega, h⟩
          have h3 := ok.out.le (i := t) (j := m - 1) (by omega) (by have := HN.out; omega)
          omega, HI.out.above⟩)
      have HJ := Lib.hid hjm
      have jz : (j : Int) ≤ 2147483648 := by omega
      clear hc hjm
      rcases Nat.eq_zero_or_pos m with h0 | h0
      · subst h0
        have A5 := HI.out.at'
        have k2 := cell_of_row _ _ 2 _ _ _ A5.row
        have k3 := cell_of_row _ _ 3 _ _ _ A5.row
        have f2 := frozen_of_row _ _ 2 _ _ A5.row
        have f3 := frozen_of_row _ _ 3 _ _ A5.row
        dsimp only at k2 k3
        have A5 := Lib.hid A5
        go_wp2_with fail
        go_quiet (fail)
        have A6 := Lib.hid (A5.out.keep (below_drewN wr nq))
        have T6 := Lib.hid (HI.out.turned.trans (Turned.of_below yb (.slice ao 0 ca) (below_drewN wr nq)))
        have P := Lib.hid (ref_last A6.out false ⟨0, 0⟩)
        go_wp2_with fail
        go_ret
        refine ⟨cutV X 0, _, _, _, _, .inr ⟨HT.out, HL.out, 0, F.out, rfl, rfl⟩, ?_, P.out.1, T6.out.trans P.out.2⟩
        have := HN.out
        have := HJ.out
        simp; omega
      · obtain ⟨p, rfl⟩ : ∃ p, m = p + 1 := ⟨m - 1, by omega⟩
        obtain ⟨g, rfl, -, hcc, -⟩ := (HeldE.of_own HI.out.at'.own).get (i := p) (by dsimp only; rw [List.length_take]; have := HN.out; have := HJ.out; omega)
        obtain ⟨d0, d1⟩ := hcc
        dsimp only at d0 d1
        rw [nthE_take (by omega)] at d0 d1
        have hlt : (nthE X.l p).lsn < lsn := F.out.2.1 p (by omega)
        have t3 : decide (lsn ≤ (nthE X.l p).lsn) = false := decide_eq_false (by omega)
        have mz : (p : Int) ≤ 2147483648 := by have := HJ.out; omega
        have pz : 0 < (p : Int) + 1 := by omega
        have gx : g ≠ yb := fun e => own_row_ne HI.out.at'.own HI.out.at'.row (by rw [e]; rfl)
        have gx2 : yb ≠ g := fun e => gx e.symm
        have k2 := cell_of_row _ _ 2 _ _ _ HI.out.at'.row
        have k3 := cell_of_row _ _ 3 _ _ _ HI.out.at'.row
        have f2 := frozen_of_row _ _ 2 _ _ HI.out.at'.row
        have f3 := frozen_of_row _ _ 3 _ _ HI.out.at'.row
        dsimp only at k2 k3
        clear hlt h0
        go_wp2_with fail
        go_quiet (fail)
        have A6 := Lib.hid (HI.out.at'.keep (below_drewN wr nq))
        have T6 := Lib.hid (HI.out.turned.trans (Turned.of_below yb (.slice (some ⟨g, 0, none⟩) (p + 1) ca) (below_drewN wr nq)))
        have P := Lib.hid (ref_last A6.out true ⟨0, 0⟩)
        have R6 := Lib.hid (show RCutR yb g p (.slice (some ⟨g, 0, none⟩) (p + 1) ca) (nthE X.l p) (((wr.drewN nq).setCell ⟨yb, 2, none⟩ (.int .i64 0)).setCell ⟨yb, 3, none⟩ (.int .i64 0)) from by
          obtain ⟨g', e', -, hcc, -⟩ := (HeldE.of_own P.out.1.own).get (i := p) (by dsimp only; rw [List.length_take]; have := HN.out; have := HJ.out; omega)
          injection e' with e'
          injection e' with e'
          subst e'
          obtain ⟨u0, u1⟩ := hcc
          dsimp only at u0 u1
          rw [nthE_take (by omega)] at u0 u1
          exact ⟨cell_of_row _ _ 1 _ _ _ P.out.1.row, u0, u1⟩)
        have T7 := Lib.hid (T6.out.trans P.out.2)
        have W8 := Lib.hid (last8 A6.out (nthE X.l p))
        have q0 : ∀ p' : In (RCutR yb g p (.slice (some ⟨g, 0, none⟩) (p + 1) ca) (nthE X.l p)), p'.w.cell? ⟨yb, 1, none⟩ = some (.slice (some ⟨g, 0, none⟩) (p + 1) ca) := fun p' => p'.h.x1
        have q1 : ∀ p' : In (RCutR yb g p (.slice (some ⟨g, 0, none⟩) (p + 1) ca) (nthE X.l p)), p'.w.cell? ⟨g, p * 2, none⟩ = some (.int .i64 (nthE X.l p).lsn) := fun p' => p'.h.d0
        have q2 : ∀ p' : In (RCutR yb g p (.slice (some ⟨g, 0, none⟩) (p + 1) ca) (nthE X.l p)), p'.w.cell? ⟨g, p * 2 + 1, none⟩ = some (.int .i64 (nthE X.l p).off) := fun p' => p'.h.d1
        clear d0 d1
        go_wp2_with fail
        refine wp_region_mixed_tail [0, 1, 2, 3, 4, 5, 6, 7, 8, 9, 10, 11, 12, 13, 14] 15 (RCutR yb g p (.slice (some ⟨g, 0, none⟩) (p + 1) ca) (nthE X.l p)) (by kernel_rfl) (by kernel_rfl) (by intro c a d v w h; cases d <;> exact h) (R6.out.below (below_drew _)) ?_
        intro hne
        simp only [pick, List.map_cons, List.map_nil, List.getD_cons_zero, List.getD_cons_succ, List.drop_succ_cons, List.drop_zero]
        refine wpMix_reads 15 _ (by kernel_rfl) ?_
        simp only [List.take_succ_cons, List.take_zero, List.drop_succ_cons, List.drop_zero]
        repeat (go_big_quiet_step (fail))
        refine wpQuiet_nil ?_
        refine wpMix_nil ?_
        clear hne q0 q1 q2
        change wpList _ _ _ _ _ _
        go_wp2_with fail
        go_ret
        refine ⟨cutV X (p + 1), _, _, _, _, .inr ⟨HT.out, HL.out, p + 1, F.out, rfl, rfl⟩, ?_, ?_, T6.out.trans W8.out.2⟩
        · have := HN.out
          have := HJ.out
          simp; omega
        · have e : lastE (X.l.take (p + 1)) = nthE X.l p := by
            unfold lastE
            rw [List.length_take, Nat.min_eq_left (by have := HN.out; have := HJ.out; omega), Nat.add_sub_cancel, nthE_take (by omega)]
          have := W8.out.1
          unfold cutV
          rw [e]
          exact this
set_option maxRecDepth 100000 in
theorem ref_cut (base yb n ca : Nat) (X : IdxV) (ao : Option Addr) (lsn : Int) (w : World) (H : Hid (RefAt w base yb X ao n ca)) (ok : Hid (IdxOk X)) :
    Calls Try.prog 48 #[.pointer (some ⟨yb, 0, none⟩), .int .i64 lsn] w (RCutQ w base yb X lsn (.slice ao n ca)) := by
  by_cases hc : X.told = true ∧ lsn ≤ X.last.lsn
  · exact ref_cut_more base yb n ca X ao lsn w H ok hc.1 hc.2
  · have x2 := cell_of_row _ _ 2 _ _ _ H.out.row
    have D := Lib.hid (show CutE X lsn X 0 from .inl ⟨by
      rcases hb : X.told with _ | _
      · exact .inl rfl
      · right
        have : ¬ lsn ≤ X.last.lsn := fun h => hc ⟨hb, h⟩
        omega, rfl, rfl⟩)
    have lr := Lib.hid ok.out.lsn
    have hc2 := Lib.hid (show X.last.lsn = 0 ∨ X.last.lsn < lsn from by
      rcases hb : X.told with _ | _
      · left; rw [ok.out.none hb]
      · right
        have : ¬ lsn ≤ X.last.lsn := fun h => hc ⟨hb, h⟩
        omega)
    clear hc
    go_enter Try.func48, Try.ntmps48
    by_cases h0 : X.last.lsn = 0
    · have t1 : (X.last.lsn == 0) = true := by simp [h0]
      clear h0
      go_wp2_with fail
      go_ret
      exact ⟨_, _, _, _, _, D.out, rfl, H.out, Turned.of_below _ _ (Below.refl _ _)⟩
    · have t1 : (X.last.lsn == 0) = false := by simp [h0]
      have t2 : decide (X.last.lsn < lsn) = true := decide_eq_true (by have := hc2.out; omega)
      clear h0
      go_wp2_with fail
      go_ret
      exact ⟨_, _, _, _, _, D.out, rfl, H.out, Turned.of_below _ _ (Below.refl _ _)⟩
end Go.Proofs.Ytmkljmljbbijeaa

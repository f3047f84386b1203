/- The walks of flumeref7's why and All. -/
import Derived.Test.YtfadpjljokpenaaPlainScan
import Derived.Maps.AppendAt
namespace Go.Proofs.Ytfadpjljokpenaa
open Go.RowKit Go.Shelf

set_option maxRecDepth 100000 in
theorem ref_why (e : Nat) (w : World) (h : e ≤ 5 ∧ 2 ≤ e) :
    Calls Try.prog 73 #[.int .i64 e] w fun x w' => x = .returned (.int .i64 e) ∧ w = w' := by
  have hc : e = 2 ∨ e = 3 ∨ e = 4 ∨ e = 5 := by omega
  rcases hc with rfl | rfl | rfl | rfl
  all_goals
    go_enter Try.func73, Try.ntmps73
    go_wp2_with fail
    go_ret
    exact ⟨rfl, rfl⟩
theorem Try.infoPlaced : (Try.prog.info? 64).map (fun i => (i.zero, i.size, i.bytes)) = some (some (.agg #[.int .i64 0, .int .i64 0, .slice none 0 0]), 3, 40) := by kernel_rfl
theorem results_all {fn : Func} {p q : Tmp} (h : fn.results = #[.cell p 57, .tmp q]) (tmps : Array Value) (w : World) (b : Nat) (s : ScV) (y : Int)
    (hp : tmps.getD p undef = .pointer (some ⟨b, 0, none⟩)) (hb : w.heap[b]? = some (.cells (scCells s y) 57 (0, 0))) :
    (results fn tmps).run Try.prog w = .ok (.tuple #[scVal s y, tmps.getD q undef]) w := by
  have hp' : tmps[p]?.getD undef = .pointer (some ⟨b, 0, none⟩) := by simpa using hp
  have c0 : w.cell? ⟨b, 0, none⟩ = some (.int .i64 s.count) := cell_of_row _ _ 0 _ _ _ hb
  have c1 : w.cell? ⟨b, 1, none⟩ = some (.int .i64 s.end_) := cell_of_row _ _ 1 _ _ _ hb
  have c2 : w.cell? ⟨b, 2, none⟩ = some (.int .i64 s.next) := cell_of_row _ _ 2 _ _ _ hb
  have c3 : w.cell? ⟨b, 3, none⟩ = some (.int .u32 (bv s.seed)) := cell_of_row _ _ 3 _ _ _ hb
  have c4 : w.cell? ⟨b, 4, none⟩ = some (.int .i64 y) := cell_of_row _ _ 4 _ _ _ hb
  simp [results, h, hp', go_sem, c0, c1, c2, c3, c4, asAddr, loadVar, Result.andThen, Sem.run_bind, scVal]
/-- Where All stands. -/
structure AllI (w : World) (bs : List (BitVec 8)) (s0 : ScV) (i : Nat) (y : Int) (lv : Value) (l : List PRec) (W : World) : Prop where
  res : W.heap[w.heap.size]? = some (.cells (scCells scZero 0) 57 (0, 0))
  box : W.heap[w.heap.size + 1]? = some (.cells (scCells (iterS bs s0 i) y) 57 (0, 0))
  row : RowAt 64 3 cells3 W (w.heap.size + 2) lv l
  told : Told bs s0 l
  len : l.length = i
  below : Below w.heap.size w W
section
variable {w W W' : World} {bs : List (BitVec 8)} {s0 : ScV} {i : Nat} {y : Int} {lv : Value} {l : List PRec}
theorem AllI.keep (h : AllI w bs s0 i y lv l W) (hb : Below W.heap.size W W') : AllI w bs s0 i y lv l W' :=
  ⟨(hb.block _ (heap_lt h.res)).trans h.res, (hb.block _ (heap_lt h.box)).trans h.box, h.row.keep hb, h.told, h.len, h.below.trans (hb.mono h.below.size)⟩
theorem AllI.go (h : AllI w bs s0 i y lv l W) : ∀ j, j < i → goS bs (iterS bs s0 j) := fun j hj => by
  have hj' : j < l.length := by rw [h.len]; exact hj
  exact (h.told j _ (List.getElem?_eq_getElem hj')).1
theorem AllI.why (h : AllI w bs s0 i y lv l W) (z : Int) : AllI w bs s0 i z lv l (W.setCell ⟨w.heap.size + 1, 4, none⟩ (.int .i64 z)) := by
  have hb := heap_lt h.box
  refine ⟨(Below.heap_setCell _ _ _ _ (by simp only; omega)).trans h.res, ?_, h.row.off fun g h1 h2 => Below.heap_setCell _ _ _ _ (by simp only; omega), h.told, h.len, h.below.setCell (by simp only; omega) _⟩
  rw [Go.Joins.block_setCell h.box (.int .i64 z) (i := 4)]
  rfl
theorem AllI.next (h : AllI w bs s0 i 0 lv l W) (hg : goS bs (iterS bs s0 i)) {w6 : World} {lv' : Value} {p : PRec} (ho : w6.ownsRow (w.heap.size + 2) 64 3 lv' (l.length + 1) (l.flatMap cells3 ++ cells3 p)) (hgr : W.grownBy w6 lv.ownBlock) (hp : OwnB W (w.heap.size + 2) p.v p.d)
    (hn : ∀ q ∈ l, q.v.ownBlock = none ∨ q.v.ownBlock ≠ p.v.ownBlock) (p1 : p.off = ((iterS bs s0 i).end_ : Int)) (p2 : p.lsn = bv (rdS bs (iterS bs s0 i)).lsn) (p3 : p.d = (rdS bs (iterS bs s0 i)).data) :
    AllI w bs s0 (i + 1) 0 lv' (l ++ [p]) ((((w6.setCell ⟨w.heap.size + 1, 0, none⟩ (.int .i64 ((iterS bs s0 i).count + 1))).setCell ⟨w.heap.size + 1, 1, none⟩ (.int .i64 ((iterS bs s0 i).end_ + (rdS bs (iterS bs s0 i)).n))).setCell ⟨w.heap.size + 1, 2, none⟩ (.int .i64 ((iterS bs s0 i).next + 1))).setCell ⟨w.heap.size + 1, 3, none⟩ (.int .u32 (bv (rdS bs (iterS bs s0 i)).sum))) := by
  have hlt := heap_lt h.box
  have hl : ∀ k, k < w.heap.size + 2 → some k ≠ lv.ownBlock := fun k hk e => by have := (rows_blk h.row.row e.symm).1; omega
  have hsz : w.heap.size + 1 < w6.heap.size := Nat.lt_of_lt_of_le hlt hgr.size
  have hbox : w6.heap[w.heap.size + 1]? = some (.cells (scCells (iterS bs s0 i) 0) 57 (0, 0)) := (hgr.block _ hlt (hl _ (by omega))).trans h.box
  have hu : But (w.heap.size + 1) w6 ((((w6.setCell ⟨w.heap.size + 1, 0, none⟩ (.int .i64 ((iterS bs s0 i).count + 1))).setCell ⟨w.heap.size + 1, 1, none⟩ (.int .i64 ((iterS bs s0 i).end_ + (rdS bs (iterS bs s0 i)).n))).setCell ⟨w.heap.size + 1, 2, none⟩ (.int .i64 ((iterS bs s0 i).next + 1))).setCell ⟨w.heap.size + 1, 3, none⟩ (.int .u32 (bv (rdS bs (iterS bs s0 i)).sum))) := (((((But.refl _ w6).setB 0 _).setB 1 _).setB 2 _).setB 3 _)
  have hbl : Below w.heap.size w w6 := h.below.grown hgr h.below.size (fun k hk => by have := (rows_blk h.row.row hk).1; omega)
  refine ⟨(hu.block _ (by omega) (by omega)).trans ((hgr.block _ (by omega) (hl _ (by omega))).trans h.res), ?_, (h.row.push (by decide) ho hgr hp hn).off fun g h1 h2 => hu.block g h2 (by omega), ?_, by simp [h.len], hu.below hbl (by omega) hbl.size⟩
  · rw [Go.Joins.block_setCell (Go.Joins.block_setCell (Go.Joins.block_setCell (Go.Joins.block_setCell hbox _ (i := 0)) _ (i := 1)) _ (i := 2)) _ (i := 3)]
    rfl
  · have hlen := h.len
    subst hlen
    exact h.told.snoc hg p1 p2 p3
end
def allM (b n : Nat) (W : World) : Nat := if intOf ((W.cell? ⟨b, 4, none⟩).getD undef) = 0 then n + 1 - (intOf ((W.cell? ⟨b, 1, none⟩).getD undef)).toNat else 0
theorem allM_of {b n e : Nat} {y : Int} {W : World} (h1 : W.cell? ⟨b, 1, none⟩ = some (.int .i64 (e : Nat))) (h4 : W.cell? ⟨b, 4, none⟩ = some (.int .i64 y)) : allM b n W = if y = 0 then n + 1 - e else 0 := by
  unfold allM
  rw [h1, h4]
  by_cases hy : y = 0 <;> simp [hy, intOf]
/-- What All answers. -/
def AllB (bs : List (BitVec 8)) (base : Int) (seed : BitVec 32) (w : World) (e : Ending) (w' : World) : Prop :=
  ∃ t y lv l, OverIs bs base seed t y ∧ Told bs ⟨0, 0, base, seed⟩ l ∧ l.length = t.count ∧ e = .returned (.tuple #[scVal t y, lv]) ∧ RowAt 64 3 cells3 w' w.heap.size lv l ∧ Below w.heap.size w w'
theorem AllI.done {w W : World} {bs : List (BitVec 8)} {s0 : ScV} {i : Nat} {y : Int} {lv : Value} {l : List PRec} (h : AllI w bs s0 i y lv l W) {base : Int} {seed : BitVec 32} (hs : s0 = ⟨0, 0, base, seed⟩) (h1 : 1 ≤ base) (hng : ¬ goS bs (iterS bs s0 i)) (hy : y = (whyS bs (iterS bs s0 i) : Nat)) {t : ScV} (ht : iterS bs s0 i = t) :
    (((((W.setCell ⟨w.heap.size, 0, none⟩ (.int .i64 t.count)).setCell ⟨w.heap.size, 1, none⟩ (.int .i64 t.end_)).setCell ⟨w.heap.size, 2, none⟩ (.int .i64 t.next)).setCell ⟨w.heap.size, 3, none⟩ (.int .u32 (bv t.seed))).setCell ⟨w.heap.size, 4, none⟩ (.int .i64 y)).heap[w.heap.size]? = some (.cells (scCells t y) 57 (0, 0)) ∧ AllB bs base seed w (.returned (.tuple #[scVal t y, lv])) (((((W.setCell ⟨w.heap.size, 0, none⟩ (.int .i64 t.count)).setCell ⟨w.heap.size, 1, none⟩ (.int .i64 t.end_)).setCell ⟨w.heap.size, 2, none⟩ (.int .i64 t.next)).setCell ⟨w.heap.size, 3, none⟩ (.int .u32 (bv t.seed))).setCell ⟨w.heap.size, 4, none⟩ (.int .i64 y)) := by
  subst ht
  have hu : But w.heap.size W (((((W.setCell ⟨w.heap.size, 0, none⟩ (.int .i64 (iterS bs s0 i).count)).setCell ⟨w.heap.size, 1, none⟩ (.int .i64 (iterS bs s0 i).end_)).setCell ⟨w.heap.size, 2, none⟩ (.int .i64 (iterS bs s0 i).next)).setCell ⟨w.heap.size, 3, none⟩ (.int .u32 (bv (iterS bs s0 i).seed))).setCell ⟨w.heap.size, 4, none⟩ (.int .i64 y)) := ((((((But.refl _ W).setB 0 _).setB 1 _).setB 2 _).setB 3 _).setB 4 _)
  refine ⟨?_, iterS bs s0 i, y, lv, l, .inr ⟨h1, i, ⟨?_, ?_⟩, ?_, ?_⟩, ?_, ?_, rfl, ?_, ?_⟩
  · rw [Go.Joins.block_setCell (Go.Joins.block_setCell (Go.Joins.block_setCell (Go.Joins.block_setCell (Go.Joins.block_setCell h.res _ (i := 0)) _ (i := 1)) _ (i := 2)) _ (i := 3)) _ (i := 4)]
    rfl
  · rw [← hs]; exact h.go
  · rw [← hs]; exact hng
  · rw [← hs]
  · rw [← hs]; exact hy
  · rw [← hs]; exact h.told
  · rw [(iterS_count bs s0 i).1, hs, h.len]; simp
  · exact (h.row.off fun g h1 h2 => hu.block g h2 (by omega)).base (by omega)
  · exact hu.below h.below (Nat.le_refl _) h.below.size
set_option maxHeartbeats 8000000 in
set_option maxRecDepth 100000 in
theorem ref_all (ao : Option Addr) (bs : List (BitVec 8)) (n cap : Nat) (base s : Int) (seed : BitVec 32) (w : World) (hs : s = bv seed) (hb : BytesAt w ao bs) (hn : bs.length = n) (hz : ao = none → cap = 0) (hc : n ≤ cap) (hm : cap ≤ 9223372036854775807) (hl : n ≤ 1000000) (h2 : base ≤ 9223372036854775807) :
    Calls Try.prog 33 #[.slice ao n cap, .int .i64 base, .int .u32 s, .int .i64 (-1)] w (AllB bs base seed w) := by
  subst hs hn
  have HB := Lib.hid hb
  have HZ := Lib.hid hz
  clear hb hz
  go_enter Try.func33, Try.ntmps33
  by_cases h1 : base < 1
  · go_wp2_with fail
    refine bodyPost_ret (results_all rfl _ _ w.heap.size scZero 0 rfl (heap_alloc_new w _)) rfl ?_
    exact ⟨scZero, 0, _, [], .inl ⟨h1, rfl, rfl⟩, Told.nil _ _, rfl, rfl, RowAt.nil _ _ _ _ _, below_alloc w _⟩
  have h1' : 1 ≤ base := by omega
  have OK0 : Hid (OkS bs ⟨0, 0, base, seed⟩) := Lib.hid ⟨Nat.zero_le _, Nat.le_refl _, by dsimp only; omega, h2⟩
  obtain ⟨s0, hs0⟩ : ∃ s0 : ScV, s0 = ⟨0, 0, base, seed⟩ := ⟨_, rfl⟩
  have HS0 := Lib.hid hs0
  obtain ⟨w2, hw2⟩ : ∃ w2, (w.alloc (.cells #[.int .i64 0, .int .i64 0, .int .i64 0, .int .u32 0, .int .i64 0] 57)).alloc (.cells #[.int .i64 0, .int .i64 0, .int .i64 base, .int .u32 (bv seed), .int .i64 0] 57) = w2 := ⟨_, rfl⟩
  have X2 : AllI w bs s0 0 0 (.slice none 0 0) [] w2 := by
    rw [← hw2, hs0]
    have b1 := below_alloc w (.cells #[.int .i64 0, .int .i64 0, .int .i64 0, .int .u32 0, .int .i64 0] 57)
    have b2 := below_alloc (w.alloc (.cells #[.int .i64 0, .int .i64 0, .int .i64 0, .int .u32 0, .int .i64 0] 57)) (.cells #[.int .i64 0, .int .i64 0, .int .i64 base, .int .u32 (bv seed), .int .i64 0] 57)
    have e1 : (w.alloc (.cells #[.int .i64 0, .int .i64 0, .int .i64 0, .int .u32 0, .int .i64 0] 57)).heap.size = w.heap.size + 1 := by simp
    have h2 := heap_alloc_new (w.alloc (.cells #[.int .i64 0, .int .i64 0, .int .i64 0, .int .u32 0, .int .i64 0] 57)) (.cells #[.int .i64 0, .int .i64 0, .int .i64 base, .int .u32 (bv seed), .int .i64 0] 57)
    rw [e1] at h2
    exact ⟨(b2.block _ (by omega)).trans (heap_alloc_new w _), h2, RowAt.nil _ _ _ _ _, Told.nil _ _, rfl, below_trans b1 b2⟩
  have XX := Lib.hid X2
  have E1 : w.heap.size + 1 < w2.heap.size := heap_lt X2.box
  have S2 := Lib.hid E1
  have HW2 := Lib.hid hw2
  clear X2 E1 hs0 hw2
  rw [← HS0.out] at OK0
  go_wp2_with fail
  rw [HW2.out]
  clear HW2
  go_loopw [11, 12, 13, 14, 15] (fun lv _ _ _ _ wr => ∃ (i : Nat) (l : List PRec) (y : Int), AllI w bs s0 i y lv l wr ∧ (y = 0 ∨ (¬ y = 0 ∧ ¬ goS bs (iterS bs s0 i) ∧ y = (whyS bs (iterS bs s0 i) : Nat)))) (fun _ _ _ _ _ wr => allM (w.heap.size + 1) bs.length wr)
  case atStart => exact ⟨0, [], 0, XX.out, .inl rfl⟩
  case round =>
    obtain ⟨i, l, y, hA, hy⟩ := hrel
    have HA := Lib.hid hA
    have HG := Lib.hid hA.go
    have hok := iterS_ok OK0.out i hA.go
    obtain ⟨t, ht⟩ : ∃ t, iterS bs s0 i = t := ⟨_, rfl⟩
    have bx := hA.box
    have rs := hA.res
    rw [ht] at bx hok hy
    have HT := Lib.hid ht
    have HOK := Lib.hid hok
    have e1 := hok.le
    have e2 := hok.lo
    have e3 := hok.hi
    have e4 := hok.count
    obtain ⟨c0, c1, c2, c3, c4, cf⟩ := scan_cells bx
    have MM := Lib.hid (allM_of (n := bs.length) c1 c4)
    have CF := Lib.hid cf
    obtain ⟨z0, z1, z2, z3, z4, zf⟩ := scan_cells rs
    have ZF := Lib.hid zf
    clear hA ht hok bx rs cf zf
    rcases hy with rfl | ⟨hy0, hng, hyw⟩
    · by_cases hend : t.end_ = bs.length
      · have b1 : ((t.end_ : Int) == (bs.length : Int)) = true := beq_iff_eq.2 (by omega)
        have hng : ¬ goS bs t := fun h => by have := h.1; omega
        have hw : (1 : Int) = (whyS bs t : Nat) := by unfold whyS; rw [if_neg (by omega)]; rfl
        obtain ⟨p1, p2⟩ := (HA.out.why 1).done HS0.out h1' (by rw [HT.out]; exact hng) (by rw [HT.out]; exact hw) HT.out
        have f4 := CF.out 4
        have g0 := ZF.out 0
        have g1 := ZF.out 1
        have g2 := ZF.out 2
        have g3 := ZF.out 3
        have g4 := ZF.out 4
        have P1 := Lib.hid p1
        have P2 := Lib.hid p2
        clear p1 p2 hw hng hend
        go_wp2_with fail
        refine bodyPost_ret (results_all rfl _ _ w.heap.size t 1 rfl P1.out) rfl ?_
        exact P2.out
      · have hlt : t.end_ < bs.length := by omega
        have b1 : ((t.end_ : Int) == (bs.length : Int)) = false := beq_false_of_ne (by omega)
        obtain ⟨g, off, rfl, -⟩ := HB.out t.end_ hlt
        have kc : ¬ cap = t.end_ := by omega
        obtain ⟨⟨lsn, d, n, sm, er⟩, hr⟩ : ∃ r, rF t.seed (bs.drop t.end_) = r := ⟨_, rfl⟩
        have hr2 : rdS bs t = ⟨lsn, d, n, sm, er⟩ := hr
        obtain ⟨x, hx⟩ : ∃ x : Int, bv lsn = x := ⟨_, rfl⟩
        have hcase : (¬ er = 0 ∧ (er ≤ 5 ∧ 2 ≤ er) ∧ ¬ goS bs t ∧ (er : Int) = (whyS bs t : Nat)) ∨ (er = 0 ∧ True ∧ x ≠ t.next ∧ ¬ goS bs t ∧ (6 : Int) = (whyS bs t : Nat)) ∨ (er = 0 ∧ True ∧ True ∧ x = t.next ∧ goS bs t) := by
          have he := rF_err t.seed (bs.drop t.end_)
          rw [hr] at he
          dsimp only at he
          by_cases h0 : er = 0
          · by_cases hxn : x = t.next
            · exact .inr (.inr ⟨h0, trivial, trivial, hxn, hlt, by rw [hr2]; exact h0, by rw [hr2]; exact hx.trans hxn⟩)
            · exact .inr (.inl ⟨h0, trivial, hxn, fun h => hxn (by have := h.2.2; rw [hr2] at this; exact hx.symm.trans this), by unfold whyS; rw [if_pos hlt, hr2, if_neg (by simp [h0])]; rfl⟩)
          · exact .inl ⟨h0, by omega, fun h => h0 (by have := h.2.1; rw [hr2] at this; exact this), by unfold whyS; rw [if_pos hlt, hr2, if_pos h0]⟩
        have HC := Lib.hid hcase
        have HR := Lib.hid hr
        have HX := Lib.hid hx
        have CC := Lib.hid (show (Cells3 ⟨w.heap.size + 1, 3, none⟩ ⟨w.heap.size + 1, 1, none⟩ ⟨w.heap.size + 1, 1, none⟩ (.int .u32 (bv t.seed)) (.int .i64 t.end_) (.int .i64 t.end_)) wr from ⟨c3, c1, c1⟩)
        have g0 : ∀ p : In (Cells3 ⟨w.heap.size + 1, 3, none⟩ ⟨w.heap.size + 1, 1, none⟩ ⟨w.heap.size + 1, 1, none⟩ (.int .u32 (bv t.seed)) (.int .i64 t.end_) (.int .i64 t.end_)), p.w.cell? ⟨w.heap.size + 1, 3, none⟩ = some (.int .u32 (bv t.seed)) := fun p => p.h.c0
        have g1 : ∀ p : In (Cells3 ⟨w.heap.size + 1, 3, none⟩ ⟨w.heap.size + 1, 1, none⟩ ⟨w.heap.size + 1, 1, none⟩ (.int .u32 (bv t.seed)) (.int .i64 t.end_) (.int .i64 t.end_)), p.w.cell? ⟨w.heap.size + 1, 1, none⟩ = some (.int .i64 t.end_) := fun p => p.h.c1
        clear hcase hr hr2 hx hend
        go_wp2_with fail
        refine wp_region_fork [0, 1, 2, 3, 4, 5] 6 12 [7, 8, 9, 10, 11, 12, 13, 14, 15, 16] [6, 7, 8, 9, 10, 11, 13, 14, 15, 16] (Cells3 ⟨w.heap.size + 1, 3, none⟩ ⟨w.heap.size + 1, 1, none⟩ ⟨w.heap.size + 1, 1, none⟩ (.int .u32 (bv t.seed)) (.int .i64 t.end_) (.int .i64 t.end_)) (by kernel_rfl) (by kernel_rfl) (by intro c a d v w h; cases d <;> exact h) (CC.out.on (below_drew _)) ?_
        intro hne
        simp only [pick, List.map_cons, List.map_nil, List.getD_cons_zero, List.getD_cons_succ]
        repeat (go_big_quiet_step (fail))
        refine wpQuiet_nil ?_
        clear c0 c1 c2 c3 c4 z0 z1 z2 z3 z4
        refine ⟨?_, ?_⟩
        · refine wpMix_act rfl ?_ rfl
          go_wp2_with fail
          refine (ref_read_x _ t.seed _ (bs.drop t.end_) _ (cap - t.end_) _ rfl (((HB.out.below HA.out.below).below (below_drew wr)).drop t.end_) List.length_drop (fun h => by cases h) (by omega) (by omega) ⟨lsn, d, n, sm, er⟩ HR.out).mono ?_
          rintro e x1 ⟨vq, he, hO, hb⟩
          dsimp only at he hO
          obtain ⟨aq, cq, rfl, -, -, -, -, -⟩ := hO.slice
          rw [HX.out] at he
          subst he
          have CX := Lib.hid (CC.out.on (below_trans (below_drew _) hb))
          have BQ := Lib.hid (below_trans (below_drew wr) (below_trans hb (below_alloc x1 (.cells #[.int .i64 x, .slice aq d.length cq] 34))))
          have Q := Lib.hid (rec_new x1 x (.slice aq d.length cq))
          have OQ := Lib.hid (show OwnB (x1.alloc (.cells #[.int .i64 x, .slice aq d.length cq] 34)) wr.heap.size (.slice aq d.length cq) d from OwnB.keep hO (below_alloc x1 (.cells #[.int .i64 x, .slice aq d.length cq] 34)))
          have HY := heap_alloc_new x1 (.cells #[.int .i64 0, .slice none 0 0] 34)
          have y0 := cell_of_row _ _ 0 _ _ _ HY
          have y1 := cell_of_row _ _ 1 _ _ _ HY
          have fy0 := frozen_of_row _ _ 0 _ _ HY
          have fy1 := frozen_of_row _ _ 1 _ _ HY
          have CZ := Lib.hid (CX.out.on (below_alloc x1 (.cells #[.int .i64 0, .slice none 0 0] 34)))
          have CF := Lib.hid (CX.out.on (below_alloc x1 (.cells #[.int .i64 x, .slice aq d.length cq] 34)))
          clear hO hb HY
          go_wp2_with fail
          refine ⟨⟨⟨_, CX.out⟩, rfl⟩, ?_⟩
          refine wpMix_reads 5 _ (by kernel_rfl) ?_
          simp only [List.take_succ_cons, List.take_zero, List.drop_succ_cons, List.drop_zero]
          repeat (go_big_quiet_step (fail))
          refine wpQuiet_nil ?_
          refine wpMix_act rfl ?_ rfl
          go_wp2_with fail
          refine ⟨⟨⟨_, CZ.out⟩, rfl⟩, ?_⟩
          refine wpMix_act rfl ?_ rfl
          go_wp2_with fail
          refine ⟨⟨⟨_, CF.out⟩, rfl⟩, ?_⟩
          refine wpMix_reads 3 _ (by kernel_rfl) ?_
          simp only [List.take_succ_cons, List.take_zero, List.drop_succ_cons, List.drop_zero]
          repeat (go_big_quiet_step (fail))
          refine wpQuiet_nil ?_
          refine wpMix_nil ?_
          clear hne y0 y1 fy0 fy1 CX CZ CF CC g0 g1
          obtain ⟨wq, hwq⟩ : ∃ wq, x1.alloc (.cells #[.int .i64 x, .slice aq d.length cq] 34) = wq := ⟨_, rfl⟩
          rw [hwq] at BQ Q OQ
          (first | rw [hwq] | skip)
          clear hwq
          have hcase := HC.out
          have A5 := Lib.hid (HA.out.keep BQ.out)
          have bx := A5.out.box
          rw [HT.out] at bx
          obtain ⟨c0, c1, c2, c3, c4, cf⟩ := scan_cells bx
          have f4 := cf 4
          have q0 := Q.out.c0
          have q1 := Q.out.c1
          clear bx cf
          rcases hcase with ⟨he0, her, hng, hw⟩ | ⟨rfl, hx0, hx1, hng, hw⟩ | ⟨rfl, hx0, hx1, rfl, hg⟩
          · have HW := Lib.hid hw
            clear hw
            have b1 : ((er : Int) == 0) = false := beq_false_of_ne (by omega)
            have b2 : ((er : Int) != 0) = true := by simp [bne, b1]
            have b3 : ¬ ((er : Int) = 0) := by omega
            go_wp2_with fail
            refine (ref_why er _ her).mono ?_
            rintro e w' ⟨rfl, rfl⟩
            have A6 := Lib.hid (A5.out.why er)
            go_wp2_with fail
            go_roundw
            case rel => exact ⟨i, l, er, A6.out, .inr ⟨b3, by rw [HT.out]; exact hng, by rw [HT.out]; exact HW.out⟩⟩
            case measure =>
              obtain ⟨-, d1, -, -, d4, -⟩ := scan_cells A6.out.box
              rw [allM_of d1 d4, MM.out, if_neg b3]
              simp only [if_true]
              omega
          · have HW := Lib.hid hw
            clear hw
            have b1 : (x == t.next) = false := beq_false_of_ne hx1
            have b2 : (x != t.next) = true := by simp [bne, b1]
            have A6 := Lib.hid (A5.out.why 6)
            go_wp2_with fail
            go_roundw
            case rel => exact ⟨i, l, 6, A6.out, .inr ⟨by decide, by rw [HT.out]; exact hng, by rw [HT.out]; exact HW.out⟩⟩
            case measure =>
              obtain ⟨-, d1, -, -, d4, -⟩ := scan_cells A6.out.box
              rw [allM_of d1 d4, MM.out, if_neg (by decide)]
              simp only [if_true]
              omega
          · have hgi : goS bs (iterS bs s0 i) := by rw [HT.out]; exact hg
            obtain ⟨kn, k16, knx⟩ := goS_next hg HOK.out
            have hr2 : rdS bs t = ⟨lsn, d, n, sm, 0⟩ := HR.out
            have kl := kn.le
            have knd : (nextS bs t).end_ = t.end_ + n := by show t.end_ + (rdS bs t).n = _; rw [hr2]
            rw [knd] at kl k16
            have n1 : (t.count : Int) + 1 ≤ 9223372036854775807 := by omega
            have n2 : (t.end_ : Int) + (n : Int) ≤ 9223372036854775807 := by omega
            have n3 : t.next + 1 ≤ 9223372036854775807 := by omega
            have n4 : -9223372036854775808 ≤ t.next + 1 := by omega
            have HGI := Lib.hid hgi
            have K16 := Lib.hid k16
            have HR2 := Lib.hid hr2
            have LB : Hid (16 * l.length ≤ bs.length) := Lib.hid (HA.out.told.bound OK0.out)
            have lb : l.length ≤ 1000000 := by have := LB.out; omega
            have FR : Hid (∀ q ∈ l, q.v.ownBlock = none ∨ q.v.ownBlock ≠ (Value.slice aq d.length cq).ownBlock) := Lib.hid fun q hq => HA.out.row.lt hq OQ.out (Nat.le_refl _)
            have A6 := Lib.hid (A5.out.keep (below_alloc wq (.cells #[.int .i64 t.end_, .int .i64 t.next, .slice aq d.length cq] 64)))
            have O6 := Lib.hid (OwnB.base (OQ.out.keep (below_alloc wq (.cells #[.int .i64 t.end_, .int .i64 t.next, .slice aq d.length cq] 64))) (show w.heap.size + 2 ≤ wr.heap.size from heap_lt HA.out.box))
            have SZ6 := Lib.hid (show w.heap.size + 2 ≤ (wq.alloc (.cells #[.int .i64 t.end_, .int .i64 t.next, .slice aq d.length cq] 64)).heap.size from heap_lt A6.out.box)
            have NW : Hid (∀ j u, [.int .i64 t.end_, .int .i64 t.next, .slice aq d.length cq][j]? = some u → (wq.alloc (.cells #[.int .i64 t.end_, .int .i64 t.next, .slice aq d.length cq] 64)).cell? ((⟨wq.heap.size, 0, none⟩ : Addr).add j) = some u) := Lib.hid (cells_new _ _ _)
            obtain ⟨i0, hi, hz0, hz1, hz2⟩ := info_parts Try.infoPlaced
            have HI := Lib.hid hi
            have HZ0 := Lib.hid hz0
            have HZ1 := Lib.hid hz1
            have HZ2 := Lib.hid hz2
            clear hgi kn k16 knx hr2 kl knd hi hz0 hz1 hz2 hg hx1 hx0
            go_wp2_with (refine wpList_append_own_at _ (o := ⟨some 59, _, _, _, _, _⟩) rfl _ _ 58 rfl (w.heap.size + 2) 64 i0 (.agg #[.int .i64 0, .int .i64 0, .slice none 0 0]) 3 40 Try.underlying58 HI.out HZ0.out HZ1.out HZ2.out rfl (by decide) u11 l.length (l.flatMap cells3) rfl A6.out.row.row ⟨wq.heap.size, 0, none⟩ 1 1 [.int .i64 t.end_, .int .i64 t.next, .slice aq d.length cq] rfl rfl NW.out (three_cells _ _ _ _ _) (by simp only [maxLen]; omega) (by omega) SZ6.out ?_)
            intro lv' w6 ho6 hg6 hi6 hat
            clear hi6 hat
            obtain ⟨g', cap', rfl⟩ := ownsRow_succ ho6
            have hlv : ∀ k, k < w.heap.size + 2 → some k ≠ u11.ownBlock := fun k hk e => by have := (rows_blk A6.out.row.row e.symm).1; omega
            have bx6 := (hg6.block (w.heap.size + 1) (heap_lt A6.out.box) (hlv _ (by omega))).trans A6.out.box
            have A7 := A6.out.next HGI.out (p := ⟨(t.end_ : Int), t.next, .slice aq d.length cq, d⟩) ho6 hg6 O6.out FR.out (by rw [HT.out]) (by rw [HT.out, HR2.out]; exact HX.out.symm) (by rw [HT.out, HR2.out])
            rw [HT.out] at bx6
            rw [HT.out, HR2.out] at A7
            obtain ⟨c0, c1, c2, c3, c4, cf⟩ := scan_cells bx6
            have f0 := cf 0
            have f1 := cf 1
            have f2 := cf 2
            have f3 := cf 3
            have A7' := Lib.hid A7
            clear A7 bx6 cf ho6 hg6 hlv O6 A6 NW SZ6 HI HZ0 HZ1 HZ2 q0 q1 f4
            go_wp2_with fail
            go_roundw
            case rel => exact ⟨i + 1, _, 0, A7'.out, .inl rfl⟩
            case measure =>
              obtain ⟨-, d1, -, -, d4, -⟩ := scan_cells A7'.out.box
              rw [allM_of d1 d4, MM.out]
              simp only [if_true]
              have : (iterS bs s0 (i + 1)).end_ = t.end_ + n := by show (iterS bs s0 i).end_ + (rdS bs (iterS bs s0 i)).n = _; rw [HT.out, HR2.out]
              have := K16.out
              omega
        · have bz : Below wr.heap.size wr (wr.alloc (.cells #[.int .i64 0, .slice none 0 0] 34)).drew := below_trans (below_alloc wr (.cells #[.int .i64 0, .slice none 0 0] 34)) (below_drew _)
          have BZ := Lib.hid bz
          have SZ0 : (wr.alloc (.cells #[.int .i64 0, .slice none 0 0] 34)).heap.size = wr.heap.size + 1 := by show (wr.heap.push _).size = _; rw [Array.size_push]
          have SZ := Lib.hid SZ0
          have CZ := Lib.hid (CC.out.on bz)
          have HY := heap_alloc_new wr (.cells #[.int .i64 0, .slice none 0 0] 34)
          have Z0 := Lib.hid (show ((wr.alloc (.cells #[.int .i64 0, .slice none 0 0] 34)).drew).cell? ⟨wr.heap.size, 0, none⟩ = some (.int .i64 0) from cell_of_row _ _ 0 _ _ _ HY)
          have Z1 := Lib.hid (show ((wr.alloc (.cells #[.int .i64 0, .slice none 0 0] 34)).drew).cell? ⟨wr.heap.size, 1, none⟩ = some (.slice none 0 0) from cell_of_row _ _ 1 _ _ _ HY)
          have FZ := Lib.hid (show ∀ j, ((wr.alloc (.cells #[.int .i64 0, .slice none 0 0] 34)).drew).frozen? ⟨wr.heap.size, j, none⟩ = false from fun j => frozen_of_row _ _ j _ _ HY)
          clear bz HY SZ0
          refine wpMix_act rfl ?_ rfl
          go_wp2_with fail
          refine ⟨⟨⟨_, CZ.out⟩, rfl⟩, ?_⟩
          refine wpMix_act rfl ?_ rfl
          go_wp2_with fail
          refine (ref_read_x _ t.seed _ (bs.drop t.end_) _ (cap - t.end_) _ rfl (((HB.out.below HA.out.below).below BZ.out).drop t.end_) List.length_drop (fun h => by cases h) (by omega) (by omega) ⟨lsn, d, n, sm, er⟩ HR.out).mono ?_
          rintro e x1 ⟨vq, he, hO, hb⟩
          dsimp only at he hO
          obtain ⟨aq, cq, rfl, -, -, -, -, -⟩ := hO.slice
          rw [HX.out] at he
          subst he
          have hl : wr.heap.size < ((wr.alloc (.cells #[.int .i64 0, .slice none 0 0] 34)).drew).heap.size := by show wr.heap.size < (wr.alloc (.cells #[.int .i64 0, .slice none 0 0] 34)).heap.size; rw [SZ.out]; omega
          have CX := Lib.hid (CZ.out.on hb)
          have y0 := cell_keep hb Z0.out
          have y1 := cell_keep hb Z1.out
          have fy0 := (hb.frozen (p := ⟨wr.heap.size, 0, none⟩) hl).trans (FZ.out 0)
          have fy1 := (hb.frozen (p := ⟨wr.heap.size, 1, none⟩) hl).trans (FZ.out 1)
          have bu : But wr.heap.size x1 ((x1.setCell ⟨wr.heap.size, 0, none⟩ (.int .i64 x)).setCell ⟨wr.heap.size, 1, none⟩ (.slice aq d.length cq)) := ((But.refl wr.heap.size x1).setB 0 _).setB 1 _
          have BQ := Lib.hid (show Below wr.heap.size wr ((x1.setCell ⟨wr.heap.size, 0, none⟩ (.int .i64 x)).setCell ⟨wr.heap.size, 1, none⟩ (.slice aq d.length cq)) from ((below_trans BZ.out hb).setCell (p := ⟨wr.heap.size, 0, none⟩) (Nat.le_refl _) _).setCell (p := ⟨wr.heap.size, 1, none⟩) (Nat.le_refl _) _)
          have zz : (x1.setCell ⟨wr.heap.size, 0, none⟩ (.int .i64 x)).cell? ⟨wr.heap.size, 1, none⟩ = some (.slice none 0 0) := by
            rw [World.cell?_setCell_other _ _ _ _ (by intro e; injection e; omega)]; exact y1
          have Q := Lib.hid (show RecIn ((x1.setCell ⟨wr.heap.size, 0, none⟩ (.int .i64 x)).setCell ⟨wr.heap.size, 1, none⟩ (.slice aq d.length cq)) wr.heap.size x (.slice aq d.length cq) from ⟨by
            rw [World.cell?_setCell_other _ _ _ _ (by intro e; injection e; omega)]; exact World.cell?_setCell_same _ _ _ y0, World.cell?_setCell_same _ _ _ zz⟩)
          have OQ := Lib.hid (show OwnB ((x1.setCell ⟨wr.heap.size, 0, none⟩ (.int .i64 x)).setCell ⟨wr.heap.size, 1, none⟩ (.slice aq d.length cq)) wr.heap.size (.slice aq d.length cq) d from OwnB.base (OwnB.but hO bu hl) (by omega))
          have CF := Lib.hid (CC.out.on BQ.out)
          clear hO hb hl bu zz
          go_wp2_with fail
          refine ⟨⟨⟨_, CX.out⟩, rfl⟩, ?_⟩
          refine wpMix_reads 5 _ (by kernel_rfl) ?_
          simp only [List.take_succ_cons, List.take_zero, List.drop_succ_cons, List.drop_zero]
          repeat (go_big_quiet_step (fail))
          refine wpQuiet_nil ?_
          refine wpMix_act rfl ?_ rfl
          go_wp2_with fail
          refine ⟨⟨⟨_, CF.out⟩, rfl⟩, ?_⟩
          refine wpMix_reads 3 _ (by kernel_rfl) ?_
          simp only [List.take_succ_cons, List.take_zero, List.drop_succ_cons, List.drop_zero]
          repeat (go_big_quiet_step (fail))
          refine wpQuiet_nil ?_
          refine wpMix_nil ?_
          clear hne y0 y1 fy0 fy1 CX CZ CF BZ Z0 Z1 FZ SZ CC g0 g1
          obtain ⟨wq, hwq⟩ : ∃ wq, ((x1.setCell ⟨wr.heap.size, 0, none⟩ (.int .i64 x)).setCell ⟨wr.heap.size, 1, none⟩ (.slice aq d.length cq)) = wq := ⟨_, rfl⟩
          rw [hwq] at BQ Q OQ
          (first | rw [hwq] | skip)
          clear hwq
          have hcase := HC.out
          have A5 := Lib.hid (HA.out.keep BQ.out)
          have bx := A5.out.box
          rw [HT.out] at bx
          obtain ⟨c0, c1, c2, c3, c4, cf⟩ := scan_cells bx
          have f4 := cf 4
          have q0 := Q.out.c0
          have q1 := Q.out.c1
          clear bx cf
          rcases hcase with ⟨he0, her, hng, hw⟩ | ⟨rfl, hx0, hx1, hng, hw⟩ | ⟨rfl, hx0, hx1, rfl, hg⟩
          · have HW := Lib.hid hw
            clear hw
            have b1 : ((er : Int) == 0) = false := beq_false_of_ne (by omega)
            have b2 : ((er : Int) != 0) = true := by simp [bne, b1]
            have b3 : ¬ ((er : Int) = 0) := by omega
            go_wp2_with fail
            refine (ref_why er _ her).mono ?_
            rintro e w' ⟨rfl, rfl⟩
            have A6 := Lib.hid (A5.out.why er)
            go_wp2_with fail
            go_roundw
            case rel => exact ⟨i, l, er, A6.out, .inr ⟨b3, by rw [HT.out]; exact hng, by rw [HT.out]; exact HW.out⟩⟩
            case measure =>
              obtain ⟨-, d1, -, -, d4, -⟩ := scan_cells A6.out.box
              rw [allM_of d1 d4, MM.out, if_neg b3]
              simp only [if_true]
              omega
          · have HW := Lib.hid hw
            clear hw
            have b1 : (x == t.next) = false := beq_false_of_ne hx1
            have b2 : (x != t.next) = true := by simp [bne, b1]
            have A6 := Lib.hid (A5.out.why 6)
            go_wp2_with fail
            go_roundw
            case rel => exact ⟨i, l, 6, A6.out, .inr ⟨by decide, by rw [HT.out]; exact hng, by rw [HT.out]; exact HW.out⟩⟩
            case measure =>
              obtain ⟨-, d1, -, -, d4, -⟩ := scan_cells A6.out.box
              rw [allM_of d1 d4, MM.out, if_neg (by decide)]
              simp only [if_true]
              omega
          · have hgi : goS bs (iterS bs s0 i) := by rw [HT.out]; exact hg
            obtain ⟨kn, k16, knx⟩ := goS_next hg HOK.out
            have hr2 : rdS bs t = ⟨lsn, d, n, sm, 0⟩ := HR.out
            have kl := kn.le
            have knd : (nextS bs t).end_ = t.end_ + n := by show t.end_ + (rdS bs t).n = _; rw [hr2]
            rw [knd] at kl k16
            have n1 : (t.count : Int) + 1 ≤ 9223372036854775807 := by omega
            have n2 : (t.end_ : Int) + (n : Int) ≤ 9223372036854775807 := by omega
            have n3 : t.next + 1 ≤ 9223372036854775807 := by omega
            have n4 : -9223372036854775808 ≤ t.next + 1 := by omega
            have HGI := Lib.hid hgi
            have K16 := Lib.hid k16
            have HR2 := Lib.hid hr2
            have LB : Hid (16 * l.length ≤ bs.length) := Lib.hid (HA.out.told.bound OK0.out)
            have lb : l.length ≤ 1000000 := by have := LB.out; omega
            have FR : Hid (∀ q ∈ l, q.v.ownBlock = none ∨ q.v.ownBlock ≠ (Value.slice aq d.length cq).ownBlock) := Lib.hid fun q hq => HA.out.row.lt hq OQ.out (Nat.le_refl _)
            have A6 := Lib.hid (A5.out.keep (below_alloc wq (.cells #[.int .i64 t.end_, .int .i64 t.next, .slice aq d.length cq] 64)))
            have O6 := Lib.hid (OwnB.base (OQ.out.keep (below_alloc wq (.cells #[.int .i64 t.end_, .int .i64 t.next, .slice aq d.length cq] 64))) (show w.heap.size + 2 ≤ wr.heap.size from heap_lt HA.out.box))
            have SZ6 := Lib.hid (show w.heap.size + 2 ≤ (wq.alloc (.cells #[.int .i64 t.end_, .int .i64 t.next, .slice aq d.length cq] 64)).heap.size from heap_lt A6.out.box)
            have NW : Hid (∀ j u, [.int .i64 t.end_, .int .i64 t.next, .slice aq d.length cq][j]? = some u → (wq.alloc (.cells #[.int .i64 t.end_, .int .i64 t.next, .slice aq d.length cq] 64)).cell? ((⟨wq.heap.size, 0, none⟩ : Addr).add j) = some u) := Lib.hid (cells_new _ _ _)
            obtain ⟨i0, hi, hz0, hz1, hz2⟩ := info_parts Try.infoPlaced
            have HI := Lib.hid hi
            have HZ0 := Lib.hid hz0
            have HZ1 := Lib.hid hz1
            have HZ2 := Lib.hid hz2
            clear hgi kn k16 knx hr2 kl knd hi hz0 hz1 hz2 hg hx1 hx0
            go_wp2_with (refine wpList_append_own_at _ (o := ⟨some 59, _, _, _, _, _⟩) rfl _ _ 58 rfl (w.heap.size + 2) 64 i0 (.agg #[.int .i64 0, .int .i64 0, .slice none 0 0]) 3 40 Try.underlying58 HI.out HZ0.out HZ1.out HZ2.out rfl (by decide) u11 l.length (l.flatMap cells3) rfl A6.out.row.row ⟨wq.heap.size, 0, none⟩ 1 1 [.int .i64 t.end_, .int .i64 t.next, .slice aq d.length cq] rfl rfl NW.out (three_cells _ _ _ _ _) (by simp only [maxLen]; omega) (by omega) SZ6.out ?_)
            intro lv' w6 ho6 hg6 hi6 hat
            clear hi6 hat
            obtain ⟨g', cap', rfl⟩ := ownsRow_succ ho6
            have hlv : ∀ k, k < w.heap.size + 2 → some k ≠ u11.ownBlock := fun k hk e => by have := (rows_blk A6.out.row.row e.symm).1; omega
            have bx6 := (hg6.block (w.heap.size + 1) (heap_lt A6.out.box) (hlv _ (by omega))).trans A6.out.box
            have A7 := A6.out.next HGI.out (p := ⟨(t.end_ : Int), t.next, .slice aq d.length cq, d⟩) ho6 hg6 O6.out FR.out (by rw [HT.out]) (by rw [HT.out, HR2.out]; exact HX.out.symm) (by rw [HT.out, HR2.out])
            rw [HT.out] at bx6
            rw [HT.out, HR2.out] at A7
            obtain ⟨c0, c1, c2, c3, c4, cf⟩ := scan_cells bx6
            have f0 := cf 0
            have f1 := cf 1
            have f2 := cf 2
            have f3 := cf 3
            have A7' := Lib.hid A7
            clear A7 bx6 cf ho6 hg6 hlv O6 A6 NW SZ6 HI HZ0 HZ1 HZ2 q0 q1 f4
            go_wp2_with fail
            go_roundw
            case rel => exact ⟨i + 1, _, 0, A7'.out, .inl rfl⟩
            case measure =>
              obtain ⟨-, d1, -, -, d4, -⟩ := scan_cells A7'.out.box
              rw [allM_of d1 d4, MM.out]
              simp only [if_true]
              have : (iterS bs s0 (i + 1)).end_ = t.end_ + n := by show (iterS bs s0 i).end_ + (rdS bs (iterS bs s0 i)).n = _; rw [HT.out, HR2.out]
              have := K16.out
              omega
    · have f0 := ZF.out 0
      have f1 := ZF.out 1
      have f2 := ZF.out 2
      have f3 := ZF.out 3
      have f4 := ZF.out 4
      obtain ⟨p1, p2⟩ := HA.out.done HS0.out h1' (by rw [HT.out]; exact hng) (by rw [HT.out]; exact hyw) HT.out
      have P1 := Lib.hid p1
      have P2 := Lib.hid p2
      have b1 : (y == 0) = false := beq_false_of_ne hy0
      clear p1 p2 hng hyw
      go_wp2_with fail
      refine bodyPost_ret (results_all rfl _ _ w.heap.size t y rfl P1.out) rfl ?_
      exact P2.out
end Go.Proofs.Ytfadpjljokpenaa

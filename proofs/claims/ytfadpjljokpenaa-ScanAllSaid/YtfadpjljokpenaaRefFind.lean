/- The walk of flumeref7's Find. -/
import Derived.Test.YtfadpjljokpenaaRefAll
namespace Go.Proofs.Ytfadpjljokpenaa
open Go.RowKit Go.Shelf

theorem results_rfind {fn : Func} {p t u : Tmp} (h : fn.results = #[.cell p 34, .tmp t, .tmp u]) (tmps : Array Value) (w : World) (b : Nat) (x y : Value)
    (hp : tmps.getD p undef = .pointer (some ⟨b, 0, none⟩)) (c0 : w.cell? ⟨b, 0, none⟩ = some x) (c1 : w.cell? ⟨b, 1, none⟩ = some y) :
    (results fn tmps).run Try.prog w = .ok (.tuple #[.agg #[x, y], tmps.getD t undef, tmps.getD u undef]) w := by
  have hp' : tmps[p]?.getD undef = .pointer (some ⟨b, 0, none⟩) := by simpa using hp
  simp [results, h, hp', go_sem, c0, c1, asAddr, loadVar, Result.andThen, Sem.run_bind]
theorem flat3 : ∀ (l : List PRec) (i : Nat) (p : PRec), l[i]? = some p → (l.flatMap cells3)[i * 3]? = some (.int .i64 p.off) ∧ (l.flatMap cells3)[i * 3 + 1]? = some (.int .i64 p.lsn) ∧ (l.flatMap cells3)[i * 3 + 2]? = some p.v
  | [], i, p, h => by simp at h
  | q :: l, 0, p, h => by
    obtain rfl : q = p := by simpa using h
    exact ⟨rfl, rfl, rfl⟩
  | q :: l, i + 1, p, h => by
    have h' := flat3 l i p (by simpa using h)
    rw [show (i + 1) * 3 = i * 3 + 3 by omega, List.flatMap_cons]
    exact ⟨by simpa [cells3] using h'.1, by simpa [cells3] using h'.2.1, by simpa [cells3] using h'.2.2⟩
theorem flat2 : ∀ (l : List PRec) (i : Nat) (p : PRec), l[i]? = some p → (l.flatMap cells2)[i * 2]? = some (.int .i64 p.lsn) ∧ (l.flatMap cells2)[i * 2 + 1]? = some p.v
  | [], i, p, h => by simp at h
  | q :: l, 0, p, h => by
    obtain rfl : q = p := by simpa using h
    exact ⟨rfl, rfl⟩
  | q :: l, i + 1, p, h => by
    have h' := flat2 l i p (by simpa using h)
    rw [show (i + 1) * 2 = i * 2 + 2 by omega, List.flatMap_cons]
    exact ⟨by simpa [cells2] using h'.1, by simpa [cells2] using h'.2⟩
/-- A row's cells. -/
theorem row_at {w : World} {lo n size : Nat} {e : TypeId} {v : Value} {xs : List Value} (h : w.ownsRow lo e size v n xs) (hn : 0 < n) : ∃ g c, v = .slice (some ⟨g, 0, none⟩) n c ∧ lo ≤ g ∧ n ≤ c ∧ ∀ j x, xs[j]? = some x → w.cell? ⟨g, j, none⟩ = some x := by
  rcases h.2 with ⟨_, h0⟩ | ⟨g, cap, cur, rfl, hb, hg, hc, hm, hs, hx⟩
  · omega
  · refine ⟨g, cap, rfl, hb, hc, fun j x hj => ?_⟩
    rw [cell_of_row _ _ j _ _ _ hg]
    rw [← hx, List.getElem?_take] at hj
    split at hj
    · simpa using hj
    · cases hj
theorem ends_of {bs : List (BitVec 8)} {base : Int} {seed : BitVec 32} {t : ScV} {y : Int} {n : Nat} (h : OverIs bs base seed t y) (hn : n = t.count) : EndsAt bs base seed n := by
  rcases h with ⟨h, rfl, rfl⟩ | ⟨h, i, hi, rfl, rfl⟩
  · exact .inl ⟨h, hn⟩
  · rw [(iterS_count bs _ i).1] at hn
    obtain rfl : n = i := by simpa using hn
    exact .inr ⟨h, hi⟩
theorem FindIs.uniq {bs : List (BitVec 8)} {base : Int} {seed : BitVec 32} {lsn x x' a a' r r' : Int} {d d' : List (BitVec 8)} (h : FindIs bs base seed lsn x d a r) (k : FindIs bs base seed lsn x' d' a' r') : x = x' ∧ d = d' ∧ a = a' ∧ r = r' := by
  have nx : ∀ i, goS bs (iterS bs ⟨0, 0, base, seed⟩ i) → bv (rdS bs (iterS bs ⟨0, 0, base, seed⟩ i)).lsn = base + i := fun i hi => by rw [hi.2.2, (iterS_count bs _ i).2]
  rcases h with ⟨i, h0, h1, h2, rfl, rfl, rfl, rfl⟩ | ⟨i, h1, h2, rfl, rfl, rfl, rfl⟩ <;> rcases k with ⟨j, k0, k1, k2, rfl, rfl, rfl, rfl⟩ | ⟨j, k1, k2, rfl, rfl, rfl, rfl⟩
  · obtain rfl : i = j := by
      rw [nx i (h1 i (Nat.le_refl _))] at h2
      rw [nx j (k1 j (Nat.le_refl _))] at k2
      omega
    exact ⟨rfl, rfl, rfl, rfl⟩
  · exfalso
    rcases k1 with ⟨k1, _⟩ | ⟨_, k1⟩
    · omega
    · rcases Nat.lt_or_ge i j with hij | hij
      · exact k2 i hij h2
      · exact k1.2 (h1 j hij)
  · exfalso
    rcases h1 with ⟨h1, _⟩ | ⟨_, h1⟩
    · omega
    · rcases Nat.lt_or_ge j i with hij | hij
      · exact h2 j hij k2
      · exact h1.2 (k1 i hij)
  · exact ⟨rfl, rfl, rfl, rfl⟩
set_option maxHeartbeats 8000000 in
set_option maxRecDepth 100000 in
theorem ref_find (ao : Option Addr) (bs : List (BitVec 8)) (n cap : Nat) (base s lsn : Int) (seed : BitVec 32) (w : World) (hs : s = bv seed) (hb : BytesAt w ao bs) (hn : bs.length = n) (hz : ao = none → cap = 0) (hc : n ≤ cap) (hm : cap ≤ 9223372036854775807) (hl : n ≤ 1000000) (h0 : -9223372036854775808 ≤ base) (h2 : base ≤ 9223372036854775807) :
    Calls Try.prog 37 #[.slice ao n cap, .int .i64 base, .int .u32 s, .int .i64 lsn] w fun e w' => ∃ x v data at_ er, FindIs bs base seed lsn x data at_ er ∧ e = .returned (.tuple #[.agg #[.int .i64 x, v], .int .i64 at_, .int .i64 er]) ∧ OwnB w' w.heap.size v data ∧ Below w.heap.size w w' := by
  subst hs hn
  have HB := Lib.hid hb
  have HZ := Lib.hid hz
  clear hb hz
  have b1 := below_alloc w (.cells #[.int .i64 0, .slice none 0 0] 34)
  have BA := Lib.hid b1
  have XR := Lib.hid (heap_alloc_new w (.cells #[.int .i64 0, .slice none 0 0] 34))
  clear b1
  go_enter Try.func37, Try.ntmps37
  go_wp2_with fail
  refine (ref_all ao bs _ cap base _ seed _ rfl (HB.out.below BA.out) rfl HZ.out hc hm hl h2).mono ?_
  rintro e w1 ⟨t, y, lv, l, hov, hto, hlen, rfl, hrow, hb1⟩
  have hends := ends_of hov hlen
  have HE := Lib.hid hends
  have HTo := Lib.hid hto
  have bz := below_alloc w1 (.cells (scCells t y) 57)
  have BW := Lib.hid (below_trans BA.out (below_trans hb1 bz))
  have XR1 := Lib.hid (((below_trans hb1 bz).block w.heap.size (heap_lt XR.out)).trans XR.out)
  have RW := Lib.hid ((hrow.keep bz).base (show w.heap.size + 1 ≤ _ from by simp))
  obtain ⟨alv, clv, rfl⟩ := row_slice hrow.row
  unfold scVal
  unfold scCells at BW XR1 RW
  clear hov hto hlen hrow hb1 bz hends BA XR
  go_wp2_with fail
  obtain ⟨w2, hw2⟩ : ∃ w2, w1.alloc (.cells #[.int .i64 t.count, .int .i64 t.end_, .int .i64 t.next, .int .u32 (bv t.seed), .int .i64 y] 57) = w2 := ⟨_, rfl⟩
  rw [hw2] at BW XR1 RW
  (first | rw [hw2] | skip)
  clear hw2
  have LL : Hid (16 * l.length ≤ bs.length) := Lib.hid (HTo.out.bound ⟨Nat.zero_le _, Nat.le_refl _, h0, h2⟩)
  have ll : l.length ≤ 1000000 := by have := LL.out; omega
  go_loopw [13] (fun i wr => ∃ k : Nat, k ≤ l.length ∧ i = .int .i64 k ∧ wr = w2 ∧ Hid (∀ j p, j < k → l[j]? = some p → p.lsn ≠ lsn)) (fun i _ => l.length - (intOf i).toNat)
  case atStart => exact ⟨0, by omega, rfl, rfl, Lib.hid fun j p hj => by omega⟩
  case round =>
    obtain ⟨k, hk, rfl, rfl, hne⟩ := hrel
    obtain ⟨z0, z1⟩ : wr.cell? ⟨w.heap.size, 0, none⟩ = some (.int .i64 0) ∧ wr.cell? ⟨w.heap.size, 1, none⟩ = some (.slice none 0 0) := ⟨cell_of_row _ _ 0 _ _ _ XR1.out, cell_of_row _ _ 1 _ _ _ XR1.out⟩
    have fz0 := frozen_of_row _ _ 0 _ _ XR1.out
    have fz1 := frozen_of_row _ _ 1 _ _ XR1.out
    by_cases hlt : k < l.length
    · obtain ⟨p, hp⟩ : ∃ p, l[k]? = some p := ⟨l[k], List.getElem?_eq_getElem hlt⟩
      obtain ⟨g, cc, hv, hgl, hcc, hcell⟩ := row_at RW.out.row (by omega)
      injection hv with e1 e2 e3
      subst e1 e3
      obtain ⟨f0, f1, f2⟩ := flat3 l k p hp
      have own := RW.out.own p (List.mem_of_getElem? hp)
      obtain ⟨off, x, v, d⟩ := p
      dsimp only at f0 f1 f2 own
      obtain ⟨ap, cp, rfl, -, -, -, -, -⟩ := own.slice
      have d0 := hcell _ _ f0
      have d1 := hcell _ _ f1
      have d2 := hcell _ _ f2
      have HP := Lib.hid hp
      have OP := Lib.hid own
      have CC := Lib.hid (show Cells3 ⟨g, k * 3 + 1, none⟩ ⟨g, k * 3 + 2, none⟩ ⟨g, k * 3, none⟩ (.int .i64 x) (.slice ap d.length cp) (.int .i64 off) wr from ⟨d1, d2, d0⟩)
      clear e2 hcell f0 f1 f2 own hp
      by_cases hx : x = lsn
      · subst hx
        have g0 : ∀ p : In (Cells3 ⟨g, k * 3 + 1, none⟩ ⟨g, k * 3 + 2, none⟩ ⟨g, k * 3, none⟩ (.int .i64 x) (.slice ap d.length cp) (.int .i64 off)), p.w.cell? ⟨g, k * 3 + 1, none⟩ = some (.int .i64 x) := fun p => p.h.c0
        have g1 : ∀ p : In (Cells3 ⟨g, k * 3 + 1, none⟩ ⟨g, k * 3 + 2, none⟩ ⟨g, k * 3, none⟩ (.int .i64 x) (.slice ap d.length cp) (.int .i64 off)), p.w.cell? ⟨g, k * 3 + 2, none⟩ = some (.slice ap d.length cp) := fun p => p.h.c1
        have g2 : ∀ p : In (Cells3 ⟨g, k * 3 + 1, none⟩ ⟨g, k * 3 + 2, none⟩ ⟨g, k * 3, none⟩ (.int .i64 x) (.slice ap d.length cp) (.int .i64 off)), p.w.cell? ⟨g, k * 3, none⟩ = some (.int .i64 off) := fun p => p.h.c2
        go_wp2_with fail
        refine wp_region_mixed [0, 1, 2, 3, 4, 5, 6, 7, 8, 9, 10, 11, 12] (Cells3 ⟨g, k * 3 + 1, none⟩ ⟨g, k * 3 + 2, none⟩ ⟨g, k * 3, none⟩ (.int .i64 x) (.slice ap d.length cp) (.int .i64 off)) (by kernel_rfl) (by kernel_rfl) (by intro c a d v w h; cases d <;> exact h) (CC.out.on (below_drew _)) ?_
        intro hne'
        simp only [pick, List.map_cons, List.map_nil, List.getD_cons_zero, List.getD_cons_succ]
        refine wpMix_reads 10 _ (by kernel_rfl) ?_
        simp only [List.take_succ_cons, List.take_zero, List.drop_succ_cons, List.drop_zero]
        repeat (go_big_quiet_step (fail))
        refine wpQuiet_nil ?_
        refine wpMix_act rfl ?_ rfl
        go_wp2_with fail
        have bu : But w.heap.size wr ((wr.setCell ⟨w.heap.size, 0, none⟩ (.int .i64 x)).setCell ⟨w.heap.size, 1, none⟩ (.slice ap d.length cp)) := ((But.refl _ wr).setB 0 _).setB 1 _
        have CF : Cells3 ⟨g, k * 3 + 1, none⟩ ⟨g, k * 3 + 2, none⟩ ⟨g, k * 3, none⟩ (.int .i64 x) (.slice ap d.length cp) (.int .i64 off) ((wr.setCell ⟨w.heap.size, 0, none⟩ (.int .i64 x)).setCell ⟨w.heap.size, 1, none⟩ (.slice ap d.length cp)).drew := Cells3.on (w := ((wr.setCell ⟨w.heap.size, 0, none⟩ (.int .i64 x)).setCell ⟨w.heap.size, 1, none⟩ (.slice ap d.length cp))) ⟨bu.cell CC.out.c0 (show g ≠ w.heap.size by omega), bu.cell CC.out.c1 (show g ≠ w.heap.size by omega), bu.cell CC.out.c2 (show g ≠ w.heap.size by omega)⟩ (below_drew _)
        have k1 : ((wr.setCell ⟨w.heap.size, 0, none⟩ (.int .i64 x)).setCell ⟨w.heap.size, 1, none⟩ (.slice ap d.length cp)).drew.cell? ⟨w.heap.size, 1, none⟩ = some (.slice ap d.length cp) := World.cell?_setCell_same _ _ _ (by rw [World.cell?_setCell_other _ _ _ _ (by intro e; injection e; omega)]; exact z1)
        have k0 : ((wr.setCell ⟨w.heap.size, 0, none⟩ (.int .i64 x)).setCell ⟨w.heap.size, 1, none⟩ (.slice ap d.length cp)).drew.cell? ⟨w.heap.size, 0, none⟩ = some (.int .i64 x) := by
          show ((wr.setCell ⟨w.heap.size, 0, none⟩ (.int .i64 x)).setCell ⟨w.heap.size, 1, none⟩ (.slice ap d.length cp)).cell? ⟨w.heap.size, 0, none⟩ = _
          rw [World.cell?_setCell_other _ _ _ _ (by intro e; injection e; omega)]; exact World.cell?_setCell_same _ _ _ z0
        have OX := Lib.hid (show OwnB ((wr.setCell ⟨w.heap.size, 0, none⟩ (.int .i64 x)).setCell ⟨w.heap.size, 1, none⟩ (.slice ap d.length cp)).drew w.heap.size (.slice ap d.length cp) d from OwnB.keep (w := ((wr.setCell ⟨w.heap.size, 0, none⟩ (.int .i64 x)).setCell ⟨w.heap.size, 1, none⟩ (.slice ap d.length cp))) (OwnB.base (OwnB.but OP.out bu (Nat.lt_succ_self _)) (by omega)) (below_drew _))
        have BX := Lib.hid (show Below w.heap.size w ((wr.setCell ⟨w.heap.size, 0, none⟩ (.int .i64 x)).setCell ⟨w.heap.size, 1, none⟩ (.slice ap d.length cp)).drew from below_trans (bu.below BW.out (Nat.le_refl _) BW.out.size) (below_drew _))
        have CFH := Lib.hid CF
        have K0 := Lib.hid k0
        have K1 := Lib.hid k1
        clear bu CF k0 k1
        refine ⟨⟨⟨_, CFH.out⟩, rfl⟩, ?_⟩
        refine wpMix_reads 2 _ (by kernel_rfl) ?_
        simp only [List.take_succ_cons, List.take_zero, List.drop_succ_cons, List.drop_zero]
        repeat (go_big_quiet_step (fail))
        refine wpQuiet_nil ?_
        refine wpMix_nil ?_
        clear hne' g0 g1 g2 CFH z0 z1 fz0 fz1
        obtain ⟨W2, hW2⟩ : ∃ W2, ((wr.setCell ⟨w.heap.size, 0, none⟩ (.int .i64 x)).setCell ⟨w.heap.size, 1, none⟩ (.slice ap d.length cp)).drew = W2 := ⟨_, rfl⟩
        rw [hW2] at OX BX K0 K1
        (first | rw [hW2] | skip)
        clear hW2
        have hfi : FindIs bs base seed x x d off 0 := by
          have hk' := HTo.out k _ HP.out
          dsimp only at hk'
          refine .inl ⟨k, ?_, fun j hj => (HTo.out j _ (List.getElem?_eq_getElem (show j < l.length by omega))).1, hk'.2.2.1.symm, rfl, hk'.2.2.2, hk'.2.1, rfl⟩
          rcases HE.out with ⟨_, h⟩ | ⟨h, _⟩
          · omega
          · exact h
        have HFI := Lib.hid hfi
        clear hfi
        go_wp2_with fail
        refine bodyPost_ret (results_rfind rfl _ _ w.heap.size (.int .i64 x) (.slice ap d.length cp) rfl K0.out K1.out) rfl ?_
        exact ⟨x, _, d, off, 0, HFI.out, rfl, OX.out, BX.out⟩
      · have b1 : (x == lsn) = false := beq_false_of_ne hx
        go_wp2_with fail
        go_roundw
        case rel => exact ⟨k + 1, by omega, by go_num, trivial, Lib.hid fun j q hj hq => by
          by_cases hjk : j = k
          · subst hjk
            rw [HP.out] at hq
            injection hq with hq
            subst hq
            exact hx
          · exact hne.out j q (by omega) hq⟩
        case measure => simp [intOf]; omega
    · have hge : (l.length : Int) ≤ (k : Int) := by omega
      obtain rfl : k = l.length := by omega
      have hfi : FindIs bs base seed lsn 0 [] 0 6 := .inr ⟨l.length, HE.out, fun j hj => by
        have h := HTo.out j _ (List.getElem?_eq_getElem hj)
        rw [← h.2.2.1]
        exact hne.out j _ hj (List.getElem?_eq_getElem hj), rfl, rfl, rfl, rfl⟩
      have HF := Lib.hid hfi
      clear hfi hlt hge
      have k1 : ((wr.setCell ⟨w.heap.size, 0, none⟩ (.int .i64 0)).setCell ⟨w.heap.size, 1, none⟩ (.slice none 0 0)).cell? ⟨w.heap.size, 1, none⟩ = some (.slice none 0 0) := World.cell?_setCell_same _ _ _ (by rw [World.cell?_setCell_other _ _ _ _ (by intro e; injection e; omega)]; exact z1)
      have k0 : ((wr.setCell ⟨w.heap.size, 0, none⟩ (.int .i64 0)).setCell ⟨w.heap.size, 1, none⟩ (.slice none 0 0)).cell? ⟨w.heap.size, 0, none⟩ = some (.int .i64 0) := by
        rw [World.cell?_setCell_other _ _ _ _ (by intro e; injection e; omega)]; exact World.cell?_setCell_same _ _ _ z0
      have bu : But w.heap.size wr ((wr.setCell ⟨w.heap.size, 0, none⟩ (.int .i64 0)).setCell ⟨w.heap.size, 1, none⟩ (.slice none 0 0)) := ((But.refl _ wr).setB 0 _).setB 1 _
      have BX := Lib.hid (bu.below BW.out (Nat.le_refl _) BW.out.size)
      have K0 := Lib.hid k0
      have K1 := Lib.hid k1
      clear k0 k1 bu
      go_wp2_with fail
      refine bodyPost_ret (results_rfind rfl _ _ w.heap.size (.int .i64 0) (.slice none 0 0) rfl K0.out K1.out) rfl ?_
      exact ⟨0, _, [], 0, 6, HF.out, rfl, OwnB.nil _ _, BX.out⟩
end Go.Proofs.Ytfadpjljokpenaa

/- The walks of Each's iterator and of Each. -/
import Derived.Test.YtfadpjljokpenaaScanOver
namespace Go.Proofs.Ytfadpjljokpenaa
open Go.RowKit Go.Shelf
attribute [local go_sem] Oper.semAt_some

/-- All blocks but those from a to b lie as they lay. -/
structure Gap (a b : Nat) (W W' : World) : Prop where
  os : W'.os = W.os
  tape : W'.tape = W.tape
  output : W'.output = W.output
  size : W.heap.size ≤ W'.heap.size
  block : ∀ k, k < W.heap.size → (k < a ∨ b ≤ k) → W'.heap[k]? = W.heap[k]?
theorem Gap.refl (a b : Nat) (W : World) : Gap a b W W := ⟨rfl, rfl, rfl, Nat.le_refl _, fun _ _ _ => rfl⟩
theorem Gap.trans {a b : Nat} {W W1 W2 : World} (h : Gap a b W W1) (k : Gap a b W1 W2) : Gap a b W W2 :=
  ⟨k.os.trans h.os, k.tape.trans h.tape, k.output.trans h.output, Nat.le_trans h.size k.size, fun i hi hb => (k.block i (Nat.lt_of_lt_of_le hi h.size) hb).trans (h.block i hi hb)⟩
theorem Gap.of_but {a b c : Nat} {W W1 : World} (h : But c W W1) (h1 : a ≤ c) (h2 : c < b) : Gap a b W W1 :=
  ⟨h.os, h.tape, h.output, h.size, fun k hk hb => h.block k hk (by omega)⟩
theorem Gap.of_below {a b : Nat} {W W1 : World} (h : Below W.heap.size W W1) : Gap a b W W1 :=
  ⟨h.os, h.tape, h.output, h.size, fun k hk _ => h.block k hk⟩
theorem Gap.putObj {a b l : Nat} {W : World} (o : Obj) (h : l < W.heap.size) (h1 : a ≤ l) (h2 : l < b) : Gap a b W (W.putObj l o) := Gap.of_but (but_putObj W l o h) h1 h2
theorem Gap.below {a b n : Nat} {w W W1 : World} (h0 : Below n w W) (h : Gap a b W W1) (h1 : n ≤ a) (h2 : n ≤ W.heap.size) : Below n w W1 :=
  ⟨h.os.trans h0.os, h.tape.trans h0.tape, h.output.trans h0.output, Nat.le_trans h0.size h.size, fun k hk => (h.block k (by omega) (.inl (by omega))).trans (h0.block k hk)⟩
/-- What a round leaves to an iterator: its blocks from a to b, and the bytes. -/
structure KeepE (a b : Nat) (ao : Option Addr) (W W' : World) : Prop where
  size : W.heap.size ≤ W'.heap.size
  own : ∀ k, a ≤ k → k < b → k < W.heap.size → W'.heap[k]? = W.heap[k]?
  bytes : ∀ g o, ao = some ⟨g, o, none⟩ → g < W.heap.size → W'.heap[g]? = W.heap[g]?
theorem KeepE.it {a b : Nat} {ao : Option Addr} {W1 W4 W5 : World} (h : KeepE a b ao W4 W5) (h1 : But (a + 5) W1 W4) (hb : b = a + 7) (ha : ∀ g o, ao = some ⟨g, o, none⟩ → g < a) (o : Obj) : KeepIt (a + 6) (a + 1) ao W1 (W5.putObj (a + 5) o) := by
  have s1 := h1.size
  have s2 := h.size
  refine ⟨by simp; omega, fun hx => ?_, fun hx => ?_, fun g o' e hx => ?_⟩
  · exact (World.putObj_heap_other (by omega)).trans ((h.own _ (by omega) (by omega) (by omega)).trans (h1.block _ hx (by omega)))
  · exact (World.putObj_heap_other (by omega)).trans ((h.own _ (by omega) (by omega) (by omega)).trans (h1.block _ hx (by omega)))
  · have := ha g o' e
    exact (World.putObj_heap_other (by omega)).trans ((h.bytes g o' e (by omega)).trans (h1.block _ hx (by omega)))
/-- Two variables of a round's own, and the record made busy. -/
theorem round_box2 (W : World) (cs : Array Value) (T : TypeId) (cs' : Array Value) (T' : TypeId) (l : Nat) (o : Obj) (hl : l < W.heap.size) :
    (((W.alloc (.cells cs T)).alloc (.cells cs' T')).putObj l o).heap[W.heap.size]? = some (.cells cs T (0, 0)) ∧ (((W.alloc (.cells cs T)).alloc (.cells cs' T')).putObj l o).heap[W.heap.size + 1]? = some (.cells cs' T' (0, 0)) ∧ But l W (((W.alloc (.cells cs T)).alloc (.cells cs' T')).putObj l o) ∧
      (((W.alloc (.cells cs T)).alloc (.cells cs' T')).putObj l o).heap[l]? = some o ∧ Below W.heap.size W ((W.alloc (.cells cs T)).alloc (.cells cs' T')) := by
  have hs : (W.alloc (.cells cs T)).heap.size = W.heap.size + 1 := by simp
  have hs2 : ((W.alloc (.cells cs T)).alloc (.cells cs' T')).heap.size = W.heap.size + 2 := by simp
  have hb := below_alloc W (.cells cs T)
  have hb2 := below_alloc (W.alloc (.cells cs T)) (.cells cs' T')
  have h2 := heap_alloc_new (W.alloc (.cells cs T)) (.cells cs' T')
  rw [hs] at h2
  exact ⟨(World.putObj_heap_other (by omega)).trans ((hb2.block _ (by omega)).trans (heap_alloc_new W _)), (World.putObj_heap_other (by omega)).trans h2, (((But.refl l W).of_below hb).of_below hb2).trans (but_putObj _ l o (by omega)), World.putObj_heap_same (by omega), below_trans hb hb2⟩
theorem own_but {W W1 : World} {n c : Nat} {v : Value} {bs : List (BitVec 8)} (h : OwnB W n v bs) (hu : But c W W1) (hc : c < n) : OwnB W1 n v bs :=
  own_off h fun g h1 h2 => hu.block g h2 (by omega)
theorem whyS_pos (bs : List (BitVec 8)) (s : ScV) : ((whyS bs s : Nat) : Int) ≠ 0 := by
  unfold whyS
  split
  · split
    · rename_i h; omega
    · decide
  · decide
/-- Where the rounds end. -/
def EndsAt (bs : List (BitVec 8)) (base : Int) (seed : BitVec 32) (i : Nat) : Prop := (base < 1 ∧ i = 0) ∨ (1 ≤ base ∧ StopsAt bs ⟨0, 0, base, seed⟩ i)

set_option maxRecDepth 100000 in
set_option maxHeartbeats 4000000 in
theorem each_it_in (bN bS bO : Nat) (ao : Option Addr) (cap : Nat) (bs : List (BitVec 8)) (base : Int) (seed : BitVec 32) (m l0 : Nat) (J : Nat → World → Prop) (Jx : World → Prop) (w : World) (h1 : 1 ≤ base) (h2 : base ≤ 9223372036854775807)
    (hbN : w.cell? ⟨bN, 0, none⟩ = some (.int .i64 base)) (hbS : w.cell? ⟨bS, 0, none⟩ = some (.int .u32 (bv seed))) (hbO : w.cell? ⟨bO, 0, none⟩ = some (.slice ao bs.length cap)) (hby : BytesAt w ao bs) (hn : ao = none → cap = 0) (hc : bs.length ≤ cap) (hm : cap ≤ 9223372036854775807) (hl : bs.length ≤ 140737488363520)
    (hJ : ∀ i W1 W2, J i W1 → Gap (w.heap.size + 4) (w.heap.size + 7) W1 W2 → J i W2) (hJx : ∀ W1 W2, Jx W1 → Gap (w.heap.size + 4) (w.heap.size + 7) W1 W2 → Jx W2)
    (hGo : ∀ i W0 W1 v, (∀ j, j < i → goS bs (iterS bs ⟨0, 0, base, seed⟩ j)) → goS bs (iterS bs ⟨0, 0, base, seed⟩ i) → J i W0 → w.heap.size + 7 ≤ W0.heap.size → Gap (w.heap.size + 4) (w.heap.size + 7) W0 W1 → OwnB W1 W0.heap.size v (rdS bs (iterS bs ⟨0, 0, base, seed⟩ i)).data →
      YieldAt Fence.wide m Try.prog l0 #[.int .i64 (iterS bs ⟨0, 0, base, seed⟩ i).end_, .agg #[.int .i64 (bv (rdS bs (iterS bs ⟨0, 0, base, seed⟩ i)).lsn), v]] W1 fun e W2 =>
        (e = .returned (.bool true) ∧ J (i + 1) W2 ∧ KeepE w.heap.size (w.heap.size + 7) ao W1 W2) ∨ (e = .returned (.bool false) ∧ Jx W2 ∧ KeepE w.heap.size (w.heap.size + 7) ao W1 W2))
    (h0 : J 0 w) :
    CallsIn Fence.wide (m + 3) Try.prog 75 #[.func (.yield l0) #[] #[], .pointer (some ⟨bN, 0, none⟩), .pointer (some ⟨bO, 0, none⟩), .pointer (some ⟨bS, 0, none⟩)] w fun e W' => (∃ v, e = .returned v) ∧ ((∃ i, EndsAt bs base seed i ∧ J i W') ∨ Jx W') := by
  have HJ := Lib.hid hJ
  have HJx := Lib.hid hJx
  have HGo := Lib.hid hGo
  have H0 := Lib.hid h0
  have HBy := Lib.hid hby
  have HNN := Lib.hid hn
  clear hJ hJx hGo h0 hby hn
  obtain ⟨w2, hw2⟩ : ∃ w2, w.alloc (.cells #[.func (.yield l0) #[] #[]] 117) = w2 := ⟨_, rfl⟩
  have b2 : Below w.heap.size w w2 := by rw [← hw2]; exact below_alloc w _
  have hs2 : w2.heap.size = w.heap.size + 1 := by rw [← hw2]; simp
  have y2 : w2.heap[w.heap.size]? = some (.cells #[.func (.yield l0) #[] #[]] 117 (0, 0)) := by rw [← hw2]; exact heap_alloc_new w _
  have eN := cell_keep b2 hbN
  have eS := cell_keep b2 hbS
  have eO := cell_keep b2 hbO
  clear hbN hbS hbO
  refine callsIn_of_wp_marks Try.func75 rfl trivial ?_ rfl
  simp only [Try.ntmps75, List.size_toArray, List.length_cons, List.length_nil, Nat.reduceAdd, Nat.reduceSub, Array.replicate_succ, Array.replicate_zero, List.push_toArray, List.append_toArray, List.nil_append, List.cons_append]
  have Y2 := Lib.hid y2
  have S2 := Lib.hid hs2
  clear y2 hs2
  gi_wp2
  refine ⟨trivial, (callsIn_wide.2 (scan_along ao bs.length cap base seed _)).mono ?_⟩
  rintro e w1 ⟨rfl, rfl⟩
  obtain ⟨k0, k1, k2, kb, ks⟩ := alongW_at w2 ao bs.length cap base seed
  obtain ⟨wl, hwl⟩ : ∃ wl, alongW w2 ao bs.length cap base seed = wl := ⟨_, rfl⟩
  rw [hwl] at k0 k1 k2 kb ks ⊢
  have B2 := Lib.hid b2
  have YL := Lib.hid ((kb.block _ (by have := S2.out; omega)).trans Y2.out)
  have KB := Lib.hid kb
  have KS : Hid (wl.heap.size = w.heap.size + 4) := Lib.hid (by have := S2.out; omega)
  have K0 := Lib.hid k0
  have K1 := Lib.hid k1
  have K2 := Lib.hid k2
  clear k0 k1 k2 kb ks b2 Y2 eN eS eO hwl hw2
  gi_wp2
  refine range_in rfl (enters_of Try.func96 (by kernel_rfl) rfl) fun fn lo hlo => ?_
  obtain ⟨q1, q2, q3, q4⟩ := loopW_at wl lo
  simp only [List.append_toArray, List.cons_append, List.nil_append]
  have HGoing : Hid (∀ (t : ScV) (x : Int) (aq : Option Addr) (nq cq : Nat) (W1 : World) (N X : World → Prop), W1.heap[wl.heap.size + 1]? = some (.loop lo) → W1.heap[wl.heap.size]? = some (.deferred (some [])) → W1.heap[w.heap.size]? = some (.cells #[.func (.yield l0) #[] #[]] 117 (0, 0)) →
      (∀ W4, But (w.heap.size + 5) W1 W4 → YieldAt Fence.wide m Try.prog l0 #[.int .i64 t.end_, .agg #[.int .i64 x, .slice aq nq cq]] W4 fun e W2 => (e = .returned (.bool true) ∧ N W2 ∧ KeepE w.heap.size (w.heap.size + 7) ao W4 W2) ∨ (e = .returned (.bool false) ∧ X W2 ∧ KeepE w.heap.size (w.heap.size + 7) ao W4 W2)) →
      YieldAt Fence.wide (m + 1) Try.prog (wl.heap.size + 1) #[scVal t 0, .agg #[.int .i64 x, .slice aq nq cq]] W1 fun e W2 => ∃ W4 W5 o, But (w.heap.size + 5) W1 W4 ∧ KeepE w.heap.size (w.heap.size + 7) ao W4 W5 ∧ W2 = W5.putObj (wl.heap.size + 1) (.loop o) ∧ W2.heap[wl.heap.size + 1]? = some (.loop o) ∧ W2.heap[wl.heap.size]? = some (.deferred (some [])) ∧
        ((e = .returned (.bool true) ∧ N W5 ∧ o = lo) ∨ (e = .returned (.bool false) ∧ X W5 ∧ o = lst lo .done (some .ret)))) := Lib.hid (by
    intro t x aq nq cq W1 N X J2 J3 J4 hY
    have ks := KS.out
    have l1 := (Array.getElem?_eq_some_iff.1 J2).1
    have l2 := (Array.getElem?_eq_some_iff.1 J3).1
    have HY := Lib.hid hY
    unfold scVal
    refine YieldAt.mono (round_in hlo trivial J2 J3 (by omega) rfl (fun W => N W ∧ ∃ W4, But (w.heap.size + 5) W1 W4 ∧ KeepE w.heap.size (w.heap.size + 7) ao W4 W) (fun c W => c = .ret ∧ X W ∧ ∃ W4, But (w.heap.size + 5) W1 W4 ∧ KeepE w.heap.size (w.heap.size + 7) ao W4 W) ?_) ?_
    · have K2 := Lib.hid J2
      have K3 := Lib.hid J3
      have K4 := Lib.hid J4
      clear ks l1 l2 J2 J3 J4 hY
      gi_wp2
      have ks := KS.out
      have J2 := K2.out
      have J3 := K3.out
      have J4 := K4.out
      have l1 := (Array.getElem?_eq_some_iff.1 J2).1
      have l2 := (Array.getElem?_eq_some_iff.1 J3).1
      obtain ⟨p1, p2, p3, p4, p5⟩ := round_box2 W1 (scCells t 0) 57 #[.int .i64 x, .slice aq nq cq] 34 (wl.heap.size + 1) (.loop (lst lo .busy none)) (by omega)
      refine ⟨p5.block _ (by omega), p5.block _ (by omega), ?_⟩
      obtain ⟨W4, hW4⟩ : ∃ W4, ((W1.alloc (.cells (scCells t 0) 57)).alloc (.cells #[.int .i64 x, .slice aq nq cq] 34)).putObj (wl.heap.size + 1) (.loop (lst lo .busy none)) = W4 := ⟨_, rfl⟩
      unfold scCells at hW4
      rw [hW4]
      unfold scCells at p1 p2 p3 p4
      rw [hW4] at p1 p2 p3 p4
      have c1 := cell_of_row _ _ 1 _ _ _ p1
      have c4 := cell_of_row _ _ 4 _ _ _ p1
      have d0 := cell_of_row _ _ 0 _ _ _ p2
      have d1 := cell_of_row _ _ 1 _ _ _ p2
      have y0 := cell_of_row _ _ 0 _ _ _ ((p3.block _ (by omega) (by omega)).trans J4)
      have D3 := Lib.hid ((p3.block _ (by omega) (by omega)).trans J3)
      have P3 := Lib.hid (show But (w.heap.size + 5) W1 W4 by rw [ks] at p3; exact p3)
      have P4 := Lib.hid p4
      have L1 := Lib.hid l1
      obtain ⟨fn', tmps', assign', body', hy, hR⟩ := HY.out W4 P3.out
      clear ks p1 p2 p3 p4 p5 hW4 J2 J3 J4 l1 l2 q1 q2 q3 q4
      gi_wp2
      refine RoundIn.mono (F := Fence.wide.inRound (wl.heap.size + 1)) hR ?_
      clear hR hy c1 c4 d0 d1 y0
      rintro e W5 (⟨rfl, n5, k5⟩ | ⟨rfl, n5, k5⟩)
      · have N5 := Lib.hid n5
        have K5 := Lib.hid k5
        clear n5 k5
        gi_wp2
        have ks := KS.out
        have l1 := L1.out
        have s4 := P3.out.size
        exact roundTo_normal ((K5.out.own _ (by omega) (by omega) (by omega)).trans P4.out) ((K5.out.own _ (by omega) (by omega) (by omega)).trans D3.out) ⟨N5.out, _, P3.out, K5.out⟩
      · have N5 := Lib.hid n5
        have K5 := Lib.hid k5
        clear n5 k5
        gi_wp2
        have ks := KS.out
        have l1 := L1.out
        have s4 := P3.out.size
        exact roundTo_ret ((K5.out.own _ (by omega) (by omega) (by omega)).trans P4.out) ((K5.out.own _ (by omega) (by omega) (by omega)).trans D3.out) ⟨rfl, N5.out, _, P3.out, K5.out⟩
    · rintro e W2 (⟨rfl, W5, r1, ⟨r2, W4, r3, r4⟩, rfl, r5, r6⟩ | ⟨rfl, c, W5, r1, ⟨rfl, r2, W4, r3, r4⟩, rfl, r5, r6⟩)
      · exact ⟨W4, W5, _, r3, r4, rfl, r5, r6, .inl ⟨rfl, r2, rfl⟩⟩
      · exact ⟨W4, W5, _, r3, r4, rfl, r5, r6, .inr ⟨rfl, r2, rfl⟩⟩)
  have HLast : Hid (∀ (t : ScV) (y : Int) (W1 : World), y ≠ 0 → W1.heap[wl.heap.size + 1]? = some (.loop lo) → W1.heap[wl.heap.size]? = some (.deferred (some [])) →
      YieldAt Fence.wide (m + 1) Try.prog (wl.heap.size + 1) #[scVal t y, .agg #[.int .i64 0, .slice none 0 0]] W1 fun e W2 => ∃ W4, But (w.heap.size + 5) W1 W4 ∧ W2 = W4.putObj (wl.heap.size + 1) (.loop (lst lo .done (some .ret))) ∧ W2.heap[wl.heap.size + 1]? = some (.loop (lst lo .done (some .ret))) ∧ W2.heap[wl.heap.size]? = some (.deferred (some [])) ∧
        e = .returned (.bool false)) := Lib.hid (by
    intro t y W1 hy0 J2 J3
    have ks := KS.out
    have l1 := (Array.getElem?_eq_some_iff.1 J2).1
    have l2 := (Array.getElem?_eq_some_iff.1 J3).1
    have HY0 := Lib.hid hy0
    unfold scVal
    refine YieldAt.mono (round_in hlo trivial J2 J3 (by omega) rfl (fun W => False) (fun c W => c = .ret ∧ But (w.heap.size + 5) W1 W) ?_) ?_
    · have K2 := Lib.hid J2
      have K3 := Lib.hid J3
      clear ks l1 l2 J2 J3
      gi_wp2
      have ks := KS.out
      have J2 := K2.out
      have J3 := K3.out
      have l1 := (Array.getElem?_eq_some_iff.1 J2).1
      have l2 := (Array.getElem?_eq_some_iff.1 J3).1
      obtain ⟨p1, p2, p3, p4, p5⟩ := round_box2 W1 (scCells t y) 57 #[.int .i64 0, .slice none 0 0] 34 (wl.heap.size + 1) (.loop (lst lo .busy none)) (by omega)
      refine ⟨p5.block _ (by omega), p5.block _ (by omega), ?_⟩
      obtain ⟨W4, hW4⟩ : ∃ W4, ((W1.alloc (.cells (scCells t y) 57)).alloc (.cells #[.int .i64 0, .slice none 0 0] 34)).putObj (wl.heap.size + 1) (.loop (lst lo .busy none)) = W4 := ⟨_, rfl⟩
      unfold scCells at hW4
      rw [hW4]
      unfold scCells at p1 p2 p3 p4
      rw [hW4] at p1 p2 p3 p4
      have c1 := cell_of_row _ _ 1 _ _ _ p1
      have c4 := cell_of_row _ _ 4 _ _ _ p1
      have D3 := Lib.hid ((p3.block _ (by omega) (by omega)).trans J3)
      have P3 := Lib.hid (show But (w.heap.size + 5) W1 W4 by rw [ks] at p3; exact p3)
      have P4 := Lib.hid p4
      clear ks p1 p2 p3 p4 p5 hW4 J2 J3 l1 l2 q1 q2 q3 q4
      have hyb : (y != 0) = true := by have := HY0.out; simpa using this
      gi_wp2
      refine ⟨fun _ h => (by cases h), ?_⟩
      gi_wp2
      exact roundTo_ret P4.out D3.out ⟨rfl, P3.out⟩
    · rintro e W2 (⟨rfl, W5, r1, hf, rfl, r5, r6⟩ | ⟨rfl, c, W5, r1, ⟨rfl, r3⟩, rfl, r5, r6⟩)
      · exact hf.elim
      · exact ⟨W5, r3, rfl, r5, r6, rfl⟩)
  have ks := KS.out
  have ss := S2.out
  have hls : (loopW wl lo).heap.size = w.heap.size + 6 := by omega
  have b0 : Below w.heap.size w (loopW wl lo) := (B2.out.trans (KB.out.mono (by omega))).trans (q3.mono (by omega))
  have hbl : ∀ g o, ao = some ⟨g, o, none⟩ → bs ≠ [] → g < w.heap.size := fun g o e hne => by
    obtain ⟨g', o', e', hcell⟩ := HBy.out 0 (List.length_pos_iff.2 hne)
    rw [e] at e'
    injection e' with e'; injection e' with e1 e2
    subst e1
    have := block_lt_of_cell hcell
    dsimp only at this
    exact this
  refine (along_it (w2.heap.size + 1) (w2.heap.size + 2) w2.heap.size ao cap bs ⟨0, 0, base, seed⟩ (m + 1) (wl.heap.size + 1)
    (fun i W => J i W ∧ W.heap[wl.heap.size + 1]? = some (.loop lo) ∧ W.heap[wl.heap.size]? = some (.deferred (some [])) ∧ W.heap[w.heap.size]? = some (.cells #[.func (.yield l0) #[] #[]] 117 (0, 0)))
    (fun W => Jx W ∧ W.heap[wl.heap.size + 1]? = some (.loop (lst lo .done (some .ret))) ∧ W.heap[wl.heap.size]? = some (.deferred (some [])))
    (fun W => (∃ i, StopsAt bs ⟨0, 0, base, seed⟩ i ∧ J i W) ∧ W.heap[wl.heap.size + 1]? = some (.loop (lst lo .done (some .ret))) ∧ W.heap[wl.heap.size]? = some (.deferred (some [])))
    (loopW wl lo) ⟨rfl, rfl⟩ ?_ ?_ ?_ ?_ ?_ HNN.out hc hm hl ?_ ?_ ?_ ?_).mono ?_
  · exact ⟨Nat.zero_le _, Nat.le_refl _, by dsimp only; omega, h2⟩
  · exact cell_keep q3 K1.out
  · exact cell_keep q3 K2.out
  · exact cell_keep q3 K0.out
  · exact HBy.out.below b0
  · rintro i W1 W2 ⟨j1, j2, j3, j4⟩ hu
    have l1 := (Array.getElem?_eq_some_iff.1 j2).1
    have l2 := (Array.getElem?_eq_some_iff.1 j3).1
    have l3 := (Array.getElem?_eq_some_iff.1 j4).1
    exact ⟨HJ.out i _ _ j1 (Gap.of_but hu (by omega) (by omega)), (hu.block _ l1 (by omega)).trans j2, (hu.block _ l2 (by omega)).trans j3, (hu.block _ l3 (by omega)).trans j4⟩
  · rintro i W0 W1 v hg hgo ⟨j1, j2, j3, j4⟩ hlt hu hO
    have l1 := (Array.getElem?_eq_some_iff.1 j2).1
    have l2 := (Array.getElem?_eq_some_iff.1 j3).1
    have l3 := (Array.getElem?_eq_some_iff.1 j4).1
    have l4 := hu.size
    obtain ⟨aq, cq, rfl, -, -, -, -, -⟩ := hO.slice
    have hne : bs ≠ [] := by
      intro h0
      have := hgo.1
      rw [h0] at this
      simp at this
    refine YieldAt.mono (HGoing.out _ _ _ _ _ W1 (fun W5 => J (i + 1) W5) (fun W5 => Jx W5) ((hu.block _ l1 (by omega)).trans j2) ((hu.block _ l2 (by omega)).trans j3) ((hu.block _ l3 (by omega)).trans j4) ?_) ?_
    · intro W4 h4
      exact HGo.out i W0 W4 _ hg hgo j1 (by omega) ((Gap.of_but hu (by omega) (by omega)).trans (Gap.of_but h4 (by omega) (by omega))) (own_but hO h4 (by omega))
    · rintro e W2 ⟨W4, W5, o, h4, k5, rfl, r5, r6, h⟩
      have hq := k5.size
      have hq4 := h4.size
      rcases h with ⟨rfl, n5, rfl⟩ | ⟨rfl, n5, rfl⟩
      · refine .inl ⟨rfl, ⟨HJ.out _ _ _ n5 (Gap.putObj _ (by omega) (by omega) (by omega)), r5, r6, ?_⟩, ?_⟩
        · exact (World.putObj_heap_other (by omega)).trans ((k5.own _ (by omega) (by omega) (by omega)).trans ((h4.block _ (by omega) (by omega)).trans ((hu.block _ l3 (by omega)).trans j4)))
        · have := KeepE.it k5 h4 rfl (fun g o e => hbl g o e hne) (.loop o)
          rw [hls, ss, show wl.heap.size + 1 = w.heap.size + 5 by omega]
          exact this
      · exact .inr ⟨rfl, HJx.out _ _ n5 (Gap.putObj _ (by omega) (by omega) (by omega)), r5, r6⟩
  · rintro i W0 W1 hg hgo ⟨j1, j2, j3, j4⟩ hu
    have l1 := (Array.getElem?_eq_some_iff.1 j2).1
    have l2 := (Array.getElem?_eq_some_iff.1 j3).1
    have l4 := hu.size
    refine YieldAt.mono (HLast.out _ _ W1 (whyS_pos bs _) ((hu.block _ l1 (by omega)).trans j2) ((hu.block _ l2 (by omega)).trans j3)) ?_
    rintro e W2 ⟨W4, h4, rfl, r5, r6, rfl⟩
    have hq4 := h4.size
    exact ⟨⟨_, rfl⟩, ⟨i, ⟨hg, hgo⟩, HJ.out _ _ _ j1 (((Gap.of_but hu (by omega) (by omega)).trans (Gap.of_but h4 (by omega) (by omega))).trans (Gap.putObj _ (by omega) (by omega) (by omega)))⟩, r5, r6⟩
  · exact ⟨HJ.out 0 _ _ H0.out (Gap.of_below b0), q1, q2, (q3.block _ (by omega)).trans YL.out⟩
  · rintro e W' ⟨⟨v, rfl⟩, h⟩
    have hend : ∃ R : World → Prop, (∀ W1 W2, R W1 → Gap (w.heap.size + 4) (w.heap.size + 7) W1 W2 → R W2) ∧ (∀ W, R W → (∃ i, EndsAt bs base seed i ∧ J i W) ∨ Jx W) ∧ R W' ∧ W'.heap[wl.heap.size + 1]? = some (.loop (lst lo .done (some .ret))) ∧ W'.heap[wl.heap.size]? = some (.deferred (some [])) := by
      rcases h with ⟨r1, r2, r3⟩ | ⟨⟨i, hst, r1⟩, r2, r3⟩
      · exact ⟨Jx, HJx.out, fun W h => .inr h, r1, r2, r3⟩
      · exact ⟨J i, fun W1 W2 => HJ.out i W1 W2, fun W h => .inl ⟨i, .inr ⟨h1, hst⟩, h⟩, r1, r2, r3⟩
    obtain ⟨R, hR1, hR2, r1, r2, r3⟩ := hend
    refine ⟨⟨v, rfl⟩, .inr ⟨.ret, r2, ?_⟩⟩
    have l1 := (Array.getElem?_eq_some_iff.1 r2).1
    have D5 : (W'.putObj (wl.heap.size + 1) (.loop (lst lo .exhausted (some .ret)))).heap[wl.heap.size]? = some (.deferred (some [])) := (World.putObj_heap_other (by omega)).trans r3
    have R5 := hR1 _ (W'.putObj (wl.heap.size + 1) (.loop (lst lo .exhausted (some .ret)))) r1 (Gap.putObj _ l1 (by omega) (by omega))
    obtain ⟨W5, hW5⟩ : ∃ W5, W'.putObj (wl.heap.size + 1) (.loop (lst lo .exhausted (some .ret))) = W5 := ⟨_, rfl⟩
    rw [hW5] at R5 D5 ⊢
    have RR := Lib.hid hR1
    have RR2 := Lib.hid hR2
    clear hW5 h r1 r2 r3 l1 hR1 hR2
    rw [ks] at D5 ⊢
    have D6 := Lib.hid D5
    have R6 := Lib.hid R5
    clear D5 R5
    gi_wp2
    have l6 := (Array.getElem?_eq_some_iff.1 D6.out).1
    refine ⟨by simp, .inl ⟨_, _, rfl, run_takeDeferred D6.out, ?_⟩⟩
    refine ⟨_, results_none rfl _ _ _, ⟨_, rfl⟩, RR2.out _ (RR.out _ _ R6.out (Gap.putObj _ l6 (by omega) (by omega)))⟩

set_option maxRecDepth 100000 in
set_option maxHeartbeats 4000000 in
theorem each_it_low (bN bS bO : Nat) (base : Int) (m l0 : Nat) (w : World) (h1 : base < 1) (hbN : w.cell? ⟨bN, 0, none⟩ = some (.int .i64 base)) :
    CallsIn Fence.wide (m + 3) Try.prog 75 #[.func (.yield l0) #[] #[], .pointer (some ⟨bN, 0, none⟩), .pointer (some ⟨bO, 0, none⟩), .pointer (some ⟨bS, 0, none⟩)] w fun e W' => (∃ v, e = .returned v) ∧ Below w.heap.size w W' := by
  have b2 := below_alloc w (.cells #[.func (.yield l0) #[] #[]] 117)
  have eN := cell_keep b2 hbN
  refine callsIn_of_wp Try.func75 rfl trivial ?_ rfl
  simp only [Try.ntmps75, List.size_toArray, List.length_cons, List.length_nil, Nat.reduceAdd, Nat.reduceSub, Array.replicate_succ, Array.replicate_zero, List.push_toArray, List.append_toArray, List.nil_append, List.cons_append]
  gi_wp2
  refine bodyPost_ret (results_none rfl _ _ _) rfl ?_
  exact ⟨⟨_, rfl⟩, b2⟩

/-- What the value of Each has captured: boxes of its own, and a copy of the bytes. -/
structure EachAt (n0 bN bS bO : Nat) (ao : Option Addr) (cap : Nat) (bs : List (BitVec 8)) (base : Int) (seed : BitVec 32) (W : World) : Prop where
  cN : W.cell? ⟨bN, 0, none⟩ = some (.int .i64 base)
  cS : W.cell? ⟨bS, 0, none⟩ = some (.int .u32 (bv seed))
  cO : W.cell? ⟨bO, 0, none⟩ = some (.slice ao bs.length cap)
  bytes : BytesAt W ao bs
  nil : ao = none → cap = 0
  le : bs.length ≤ cap
  max : cap ≤ 9223372036854775807
  gN : n0 ≤ bN
  gS : n0 ≤ bS
  gO : n0 ≤ bO
  gB : ∀ g o, ao = some ⟨g, o, none⟩ → n0 ≤ g
def eachFn (bN bS bO : Nat) : Value := .func (.func 75) #[] #[.pointer (some ⟨bN, 0, none⟩), .pointer (some ⟨bO, 0, none⟩), .pointer (some ⟨bS, 0, none⟩)]
theorem EachAt.on {n0 bN bS bO cap : Nat} {ao : Option Addr} {bs : List (BitVec 8)} {base : Int} {seed : BitVec 32} {W W' : World} (h : EachAt n0 bN bS bO ao cap bs base seed W) (hb : Below W.heap.size W W') : EachAt n0 bN bS bO ao cap bs base seed W' :=
  ⟨cell_keep hb h.cN, cell_keep hb h.cS, cell_keep hb h.cO, h.bytes.below hb, h.nil, h.le, h.max, h.gN, h.gS, h.gO, h.gB⟩

set_option maxRecDepth 100000 in
set_option maxHeartbeats 4000000 in
theorem scan_each (ao : Option Addr) (bs : List (BitVec 8)) (n ca : Nat) (base s : Int) (seed : BitVec 32) (w : World) (hs : s = bv seed) (hb : BytesAt w ao bs) (hl : bs.length = n) (hn : ao = none → ca = 0) (hm : n ≤ 140737488355328) :
    Calls Try.prog 38 #[.slice ao n ca, .int .i64 base, .int .u32 s] w fun e w' => ∃ bN bS bO ao' cap, e = .returned (eachFn bN bS bO) ∧ EachAt w.heap.size bN bS bO ao' cap bs base seed w' ∧ Below w.heap.size w w' := by
  subst hs hl
  have HB := Lib.hid hb
  have HN := Lib.hid hn
  clear hb hn
  obtain ⟨w2, hw2⟩ : ∃ w2, (w.alloc (.cells #[.int .i64 base] 2)).alloc (.cells #[.int .u32 (bv seed)] 35) = w2 := ⟨_, rfl⟩
  have hs2 : w2.heap.size = w.heap.size + 2 := by rw [← hw2]; simp
  have b2 : Below w.heap.size w w2 := by rw [← hw2]; exact below_trans (below_alloc w _) (below_alloc _ _)
  have n2 : w2.cell? ⟨w.heap.size, 0, none⟩ = some (.int .i64 base) := by rw [← hw2]; exact cell_keep (below_alloc _ _) (cell_of_row _ _ 0 _ _ _ (heap_alloc_new w _))
  have s2 : w2.cell? ⟨w.heap.size + 1, 0, none⟩ = some (.int .u32 (bv seed)) := by
    rw [← hw2]
    have h := heap_alloc_new (w.alloc (.cells #[.int .i64 base] 2)) (.cells #[.int .u32 (bv seed)] 35)
    rw [show (w.alloc (.cells #[.int .i64 base] 2)).heap.size = w.heap.size + 1 by simp] at h
    exact cell_of_row _ _ 0 _ _ _ h
  have B2 := Lib.hid b2
  have N2 := Lib.hid n2
  have C2 := Lib.hid s2
  have S2 := Lib.hid hs2
  have XB := Lib.hid (HB.out.below b2)
  clear b2 n2 s2 hs2
  go_enter Try.func38, Try.ntmps38
  go_wp2_with (refine wpList_append_bytes (o := ⟨some 9, _, _, _, _, _⟩) rfl _ _ rfl w2.heap.size _ [] rfl (OwnB.nil _ _) ao bs.length ca bs rfl rfl XB.out HN.out (by simp; omega) (Nat.le_refl _) ?_)
  intro v3 w3 hv3 hg3 hi3
  clear hi3
  have b3 := (OwnB.nil w2 w2.heap.size).below hg3 (Nat.le_refl _) (Nat.le_refl _)
  obtain ⟨ao', cap, rfl, hb', hn', hc', hm', hq'⟩ := OwnB.slice hv3
  have b4 := below_alloc w3 (.cells #[.slice ao' bs.length cap] 31)
  have B4 := Lib.hid (below_trans b3 b4)
  have BY := Lib.hid (hb'.below b4)
  have CO := Lib.hid (cell_of_row _ _ 0 _ _ _ (heap_alloc_new w3 (.cells #[.slice ao' bs.length cap] 31)))
  have Z3 := Lib.hid b3.size
  have HNN := Lib.hid hn'
  have HQ := Lib.hid hq'
  clear hv3 hg3 b3 b4 hb' hn' hq' hw2
  go_wp2_with fail
  go_ret
  have h2 := S2.out
  have h3 := Z3.out
  exact ⟨w.heap.size, w.heap.size + 1, w3.heap.size, ao', cap, rfl, ⟨cell_keep B4.out N2.out, cell_keep B4.out C2.out, CO.out, BY.out, HNN.out, hc', hm', Nat.le_refl _, by omega, by omega, fun g o e => by have := (HQ.out g o e).1; omega⟩, below_trans B2.out B4.out⟩

/-- The iterator of Each, wherever it begins. -/
theorem each_it (n0 bN bS bO : Nat) (ao : Option Addr) (cap : Nat) (bs : List (BitVec 8)) (base : Int) (seed : BitVec 32) (m l0 : Nat) (J : Nat → World → Prop) (Jx : World → Prop) (w : World) (hE : EachAt n0 bN bS bO ao cap bs base seed w) (hl : bs.length ≤ 140737488363520) (h2 : base ≤ 9223372036854775807)
    (hJ : ∀ i W1 W2, J i W1 → Gap (w.heap.size + 4) (w.heap.size + 7) W1 W2 → J i W2) (hJx : ∀ W1 W2, Jx W1 → Gap (w.heap.size + 4) (w.heap.size + 7) W1 W2 → Jx W2)
    (hGo : ∀ i W0 W1 v, 1 ≤ base → (∀ j, j < i → goS bs (iterS bs ⟨0, 0, base, seed⟩ j)) → goS bs (iterS bs ⟨0, 0, base, seed⟩ i) → J i W0 → w.heap.size + 7 ≤ W0.heap.size → Gap (w.heap.size + 4) (w.heap.size + 7) W0 W1 → OwnB W1 W0.heap.size v (rdS bs (iterS bs ⟨0, 0, base, seed⟩ i)).data →
      YieldAt Fence.wide m Try.prog l0 #[.int .i64 (iterS bs ⟨0, 0, base, seed⟩ i).end_, .agg #[.int .i64 (bv (rdS bs (iterS bs ⟨0, 0, base, seed⟩ i)).lsn), v]] W1 fun e W2 =>
        (e = .returned (.bool true) ∧ J (i + 1) W2 ∧ KeepE w.heap.size (w.heap.size + 7) ao W1 W2) ∨ (e = .returned (.bool false) ∧ Jx W2 ∧ KeepE w.heap.size (w.heap.size + 7) ao W1 W2))
    (h0 : J 0 w) :
    CallsIn Fence.wide (m + 3) Try.prog 75 #[.func (.yield l0) #[] #[], .pointer (some ⟨bN, 0, none⟩), .pointer (some ⟨bO, 0, none⟩), .pointer (some ⟨bS, 0, none⟩)] w fun e W' => (∃ v, e = .returned v) ∧ ((∃ i, EndsAt bs base seed i ∧ J i W') ∨ Jx W') := by
  by_cases h1 : base < 1
  · refine (each_it_low bN bS bO base m l0 w h1 hE.cN).mono ?_
    rintro e W' ⟨hv, hb⟩
    exact ⟨hv, .inl ⟨0, .inl ⟨h1, rfl⟩, hJ 0 _ _ h0 (Gap.of_below hb)⟩⟩
  · exact each_it_in bN bS bO ao cap bs base seed m l0 J Jx w (by omega) h2 hE.cN hE.cS hE.cO hE.bytes hE.nil hE.le hE.max hl hJ hJx (fun i W0 W1 v => hGo i W0 W1 v (by omega)) h0
end Go.Proofs.Ytfadpjljokpenaa

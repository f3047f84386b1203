/- Regions that draw their order in a round of a range over a function; Keep once more, with more said of its end. -/
import Derived.Test.YtfadpjljokpenaaRangeIt
import Derived.Test.YtfadpjljokpenaaKept
import Derived.OrdersIn
import Derived.Lib.QuietBelow
namespace Go.Proofs.Ytfadpjljokpenaa
open Go.RowKit Go.Sort

theorem in_round {l n : Nat} {P : Program} {f : FuncId} {args : Array Value} {w : World} {R : Ending → World → Prop} (h : Calls P f args w R) : CallsIn (Fence.wide.inRound l) n P f args w R :=
  (callsIn_wide.2 h : CallsIn Fence.wide n P f args w R)
def noDefer (o : Oper) : Bool := match o.op with
  | .defer _ => false
  | _ => true
theorem noDefer_spec {o : Oper} (h : noDefer o = true) (c : Call) : o.op ≠ .defer c := fun e => by
  unfold noDefer at h
  rw [e] at h
  cases h
section
variable {l n : Nat} {P : Program} {ops : Array Oper} {C : World → Prop} {md : Region.Mode}
theorem wpIn_round_of_quiet {o : Oper} {a : Act} {K : Act → Prop} {K' : Act → World → Prop} {Q' : Exit → Act → World → Prop} {w : World} (hnd : noDefer o = true) (hw : C w) (h : ∀ a w', C w' → K a → K' a w') (hh : o.quiet P a C K) : o.wpIn (Fence.wide.inRound l) n P a w K' Q' := by
  obtain ⟨v, h1, h2⟩ := hh
  have h3 := h1 w hw
  unfold Oper.quietAt at h3
  unfold Oper.wpIn
  refine ⟨fun _ _ => trivial, ?_⟩
  rw [Fence.inRound_round, Oper.semAt_some _ _ _ (noDefer_spec hnd)]
  generalize (execOp a.eval o).run P w = r at *
  cases r with
  | ok x w' =>
    cases x <;> simp only [Oper.quietUpon] at h3 <;> simp only [Oper.uponIn]
    case value u =>
      obtain ⟨e1, e2⟩ := h3
      rw [e1, e2]
      exact h _ _ hw h2
    case skip =>
      obtain ⟨e1, e2⟩ := h3
      rw [e1, ← e2]
      exact h _ _ hw h2
    case enter f args =>
      obtain ⟨e1, hc⟩ := h3
      rw [e1]
      exact ⟨(fun h0 => by cases h0), in_round (hc.mono fun e w'' ⟨he, hw''⟩ => by subst he; exact h _ _ hw'' h2)⟩
  | halt x w' => simp only [Oper.quietUpon] at h3
theorem wpOpIn_round_of_qOp {i : Nat} {a : Act} {K : Act → Prop} {K' : Act → World → Prop} {Q' : Exit → Act → World → Prop} {w : World} (hnd : ∀ o, ops[i]? = some o → noDefer o = true) (hC : C w) (h : ∀ a w', C w' → K a → K' a w') (hh : qOp P ops C i K a) : wpOpIn (Fence.wide.inRound l) n P ops Q' i K' a w := by
  unfold qOp at hh
  unfold wpOpIn
  split
  · rename_i ho; simp only [ho] at hh; exact h _ _ hC hh
  · rename_i o ho
    simp only [ho] at hh
    split
    · rename_i hw; simp only [hw, if_true] at hh; exact wpIn_round_of_quiet (hnd o ho) hC h hh
    · rename_i hw; simp only [hw] at hh; exact ⟨fun _ _ => trivial, h _ _ hC hh⟩
theorem wpAnyIn_round_of_quiet {Q : Act → Prop} {Q' : Exit → Act → World → Prop} (hnd : ∀ (i : Nat) o, ops[i]? = some o → noDefer o = true) (hQ : ∀ a w, C w → Q a → Q' .normal a w) : ∀ (fuel : Nat) (listed : Array Bool) (a : Act) (w : World), C w →
    wpAnyQ P md ops C Q fuel listed a → wpAnyIn (Fence.wide.inRound l) n P md ops Q' fuel listed a w
  | 0, _, _, _, hw, h => ⟨h.1, hQ _ _ hw h.2⟩
  | fuel + 1, _, _, _, hw, h => ⟨fun h0 => hQ _ _ hw (h.1 h0), fun i hi => wpOpIn_round_of_qOp (hnd i) hw (fun a' w' hw' => wpAnyIn_round_of_quiet hnd hQ fuel _ a' w' hw') (h.2 i hi)⟩
theorem wpIn_round_quiet {id : Nat} {Q : Exit → Act → World → Prop} {a : Act} {w : World} {l' : List Oper} (hm : P.follows .mixedOrders = true) (hB : Region.lexB .any l'.toArray = true) (hd : l'.all noDefer = true)
    (h : wpQuiet P l'.toArray (fun w' => ∃ p : Regrown, w' = grow (redrawn w p.d) p.os) (fun a' => ∀ w', (∃ p : Regrown, w' = grow (redrawn w p.d) p.os) → Q .normal a' w') l' a) : (Code.region id l'.toArray true).wpIn (Fence.wide.inRound l) n P Q a w := by
  simp only [Region.lexB, Bool.and_eq_true] at hB
  refine wpIn_region_any hm (wpAnyIn_round_of_quiet (C := fun w' => ∃ p : Regrown, w' = grow (redrawn w p.d) p.os) (Q := fun a' => ∀ w', (∃ p : Regrown, w' = grow (redrawn w p.d) p.os) → Q .normal a' w') (fun i o ho => ?_) (fun _ w' hw' h => h w' hw') _ _ _ _ ⟨⟨w.drawn + 1, #[]⟩, by rw [grow_empty]; rfl⟩ ?_)
  · rw [List.all_eq_true] at hd
    exact hd o (List.mem_of_getElem? (by simpa using ho))
  · have := wpAnyQ_lex (C := fun w' => ∃ p : Regrown, w' = grow (redrawn w p.d) p.os) (md := .any) hB.1 l' 0 (Array.replicate l'.toArray.size false) a (by simp) (by simpa using hB.2) h
    simpa using this
end
set_option maxHeartbeats 2000000 in
set_option maxRecDepth 100000 in
theorem keep_x (kb lo la c : Nat) (lv : Value) (z : Nat) (xs vs : List Value) (w : World) (hK : Kept w kb lo lv z xs) (hC : Come w lo la xs vs 0) (hk : kb ≠ la) (hl : lv.ownBlock ≠ some la) (hn : vs.length ≤ 1000) (hlo : lo ≤ w.heap.size) (hS : Short xs) :
    Calls Try.prog 23 #[.pointer (some ⟨kb, 0, none⟩), .slice (some ⟨la, 0, none⟩) vs.length c] w fun e w' => e = .returned (.tuple #[]) ∧ ∃ lv' z' xs', Kept w' kb lo lv' z' xs' ∧ Below lo w w' ∧ (∀ (v : Value) (bs : List (BitVec 8)), OwnB w lo v bs → OwnB w' lo v bs) ∧ (∀ p, p < w.heap.size → p ≠ kb → lv.ownBlock ≠ some p → w'.heap[p]? = w.heap[p]?) ∧ Short xs' ∧ (∀ x ∈ xs', x ∈ xs ∨ x ∈ vs) ∧ ∀ p, p < w.heap.size → p ≠ kb → lv.ownBlock ≠ some p → lv'.ownBlock ≠ some p := by
  have HS := Lib.hid hS
  clear hS
  have HK := Lib.hid hK
  have HC := Lib.hid hC
  have HL := Lib.hid hl
  have HKL := Lib.hid hk
  clear hK hC hl hk
  go_enter Try.func23, Try.ntmps23
  go_wp2_with fail
  go_loopw [4, 5] (fun i n wr => ∃ (t : Nat) (lv' : Value) (z' : Nat) (xs' : List Value), t ≤ vs.length ∧ i = .int .i64 t ∧ Kept wr kb lo lv' z' xs' ∧ Hid (Come wr lo la xs' vs t) ∧ Hid (lv'.ownBlock ≠ some la) ∧ Below lo w wr ∧ Hid (∀ (v : Value) (bs : List (BitVec 8)), OwnB w lo v bs → OwnB wr lo v bs) ∧ Hid (∀ p, p < w.heap.size → p ≠ kb → lv.ownBlock ≠ some p → wr.heap[p]? = w.heap[p]? ∧ lv'.ownBlock ≠ some p) ∧ Hid (Short xs') ∧ Hid (∀ x ∈ xs', x ∈ xs ∨ x ∈ vs)) (fun i _ _ => vs.length - (intOf i).toNat)
  case atStart => exact ⟨0, lv, z, xs, by omega, rfl, HK.out, HC, HL, Below.refl _ _, Lib.hid (fun _ _ h => h), Lib.hid (fun _ _ _ h => ⟨rfl, h⟩), HS, Lib.hid (fun x h => .inl h)⟩
  case round =>
    obtain ⟨t, lv', z', xs', ht, rfl, hK, hC, hL, hB, hP, hF, hS, hM⟩ := hrel
    have HK1 := Lib.hid hK
    have HB1 := Lib.hid hB
    clear hK hB
    by_cases hlt : t < vs.length
    · obtain ⟨v, hv⟩ : ∃ v, vs[t]? = some v := ⟨vs[t], by simp [hlt]⟩
      have HV := Lib.hid hv
      have hcell := hC.out.cell t v (Nat.le_refl _) hv
      obtain ⟨bs, ho, hbl⟩ := hC.out.own t v (Nat.le_refl _) hv
      have HO := Lib.hid ho
      clear hv
      rcases ho.2 with ⟨rfl, h0⟩ | ⟨g, cap, cur, rfl, hg, hh, hnc, hcm, hcs, -⟩
      · clear ho h0
        have k1 := cell_regrown hcell
        go_wp2_with fail
        refine wp_region_quiet_below (by kernel_rfl) (by kernel_rfl) ?_
        repeat (go_big_quiet_step (first | (go_at_call 67; exact same_quiet (room_to _ _ 0 _ (by omega) (by omega) (by omega)))))
        refine wpQuiet_nil ?_
        intro w2 hw2
        obtain ⟨⟨nq, osq⟩, hw2'⟩ := hw2
        have hb2 : Below wr.heap.size wr w2 := by rw [hw2']; exact below_regrown _ _ _
        have K2 := Lib.hid (HK1.out.keep hb2)
        have C2 := Lib.hid (hC.out.keep hb2)
        have B2 := Lib.hid (HB1.out.trans (hb2.mono (Nat.le_trans hlo HB1.out.size)))
        have P2 : Hid (∀ (v : Value) (bs : List (BitVec 8)), OwnB w lo v bs → OwnB w2 lo v bs) := Lib.hid fun v bs h => (hP.out v bs h).keep hb2
        have F2 : Hid (∀ p, p < w.heap.size → p ≠ kb → lv.ownBlock ≠ some p → w2.heap[p]? = w.heap[p]? ∧ lv'.ownBlock ≠ some p) := Lib.hid fun p h1 h2 h3 => ⟨(hb2.block p (Nat.lt_of_lt_of_le h1 HB1.out.size)).trans (hF.out p h1 h2 h3).1, (hF.out p h1 h2 h3).2⟩
        clear hw2' k1
        go_wp2_with fail
        go_roundw
        case rel => exact ⟨t + 1, lv', z', xs', by omega, by go_num, K2.out, C2.out.next, hL, B2.out, P2, F2, hS, hM⟩
        case measure => simp [intOf]; omega
      · obtain ⟨r, hr⟩ : ∃ r : Nat, r = min cap (bs.length + 5000) := ⟨_, rfl⟩
        have hm63 : cap ≤ 9223372036854775807 := hcm
        have hmr : Hid ((r : Int) = min (cap : Int) ((bs.length : Int) + 5000)) := Lib.hid (by omega)
        have hzr := HK1.out.room
        have k1 := cell_regrown hcell
        have hrr : (r : Int) ≤ 281474976715656 := by omega
        clear ho hh hcs hr
        go_wp2_with fail
        refine wp_region_quiet_below (by kernel_rfl) (by kernel_rfl) ?_
        repeat (go_big_quiet_step (first | (go_at_call 67; exact same_quiet (room_to _ _ (r : Int) _ (by omega) (by omega) hmr.out))))
        refine wpQuiet_nil ?_
        intro w2 hw2
        obtain ⟨⟨nq, osq⟩, hw2'⟩ := hw2
        have hb2 : Below wr.heap.size wr w2 := by rw [hw2']; exact below_regrown _ _ _
        have K2 := Lib.hid (HK1.out.keep hb2)
        have C2 := Lib.hid (hC.out.keep hb2)
        have B2 := Lib.hid (HB1.out.trans (hb2.mono (Nat.le_trans hlo HB1.out.size)))
        have P2 : Hid (∀ (v : Value) (bs : List (BitVec 8)), OwnB w lo v bs → OwnB w2 lo v bs) := Lib.hid fun v bs h => (hP.out v bs h).keep hb2
        have F2 : Hid (∀ p, p < w.heap.size → p ≠ kb → lv.ownBlock ≠ some p → w2.heap[p]? = w.heap[p]? ∧ lv'.ownBlock ≠ some p) := Lib.hid fun p h1 h2 h3 => ⟨(hb2.block p (Nat.lt_of_lt_of_le h1 HB1.out.size)).trans (hF.out p h1 h2 h3).1, (hF.out p h1 h2 h3).2⟩
        clear hw2' k1
        have hc1 := K2.out.cell1
        have skip : ((r : Int) = 0 ∨ ¬ (r : Int) = 0 ∧ (4194304 : Int) < (z' : Int) + (r : Int)) ∨ (1 ≤ r ∧ ¬ (r : Int) = 0 ∧ (z' : Int) + (r : Int) ≤ 4194304) := by omega
        rcases skip with (h | ⟨h, h'⟩) | ⟨h1, h, h'⟩
        · go_wp2_with fail
          go_roundw
          case rel => exact ⟨t + 1, lv', z', xs', by omega, by go_num, K2.out, C2.out.next, hL, B2.out, P2, F2, hS, hM⟩
          case measure => simp [intOf]; omega
        · go_wp2_with fail
          go_roundw
          case rel => exact ⟨t + 1, lv', z', xs', by omega, by go_num, K2.out, C2.out.next, hL, B2.out, P2, F2, hS, hM⟩
          case measure => simp [intOf]; omega
        · have hf1 := K2.out.free 1
          have hq : ((r : Int) == 0) = false := by simp; omega
          have K3 := Lib.hid (show Kept (w2.setCell ⟨kb, 1, none⟩ (.int .i64 ((z' : Int) + (r : Int)))) kb lo lv' (z' + r) xs' by rw [← Int.natCast_add]; exact K2.out.size (z' + r) (by omega) (by omega))
          have B3 := Lib.hid (show Below lo w (w2.setCell ⟨kb, 1, none⟩ (.int .i64 ((z' : Int) + (r : Int)))) from B2.out.setCell K2.out.low _)
          have C3 := Lib.hid (show Come (w2.setCell ⟨kb, 1, none⟩ (.int .i64 ((z' : Int) + (r : Int)))) lo la xs' vs t from C2.out.move (heap_setCell_other _ _ _ _ (fun e => HKL.out e.symm)) (fun v bs ho => K2.out.own_set ho))
          have O3 := Lib.hid (show OwnB (w2.setCell ⟨kb, 1, none⟩ (.int .i64 ((z' : Int) + (r : Int)))) lo (.slice (some ⟨g, 0, none⟩) bs.length cap) bs from K2.out.own_set (HO.out.keep hb2))
          have P3 := Lib.hid (show ∀ (v : Value) (bs : List (BitVec 8)), OwnB w lo v bs → OwnB (w2.setCell ⟨kb, 1, none⟩ (.int .i64 ((z' : Int) + (r : Int)))) lo v bs from fun v bs h => K2.out.own_set (P2.out v bs h))
          have F3 := Lib.hid (show (∀ p, p < w.heap.size → p ≠ kb → lv.ownBlock ≠ some p → (w2.setCell ⟨kb, 1, none⟩ (.int .i64 ((z' : Int) + (r : Int)))).heap[p]? = w.heap[p]? ∧ lv'.ownBlock ≠ some p) from fun p h1 h2 h3 => ⟨(heap_setCell_other _ _ _ _ h2).trans (F2.out p h1 h2 h3).1, (F2.out p h1 h2 h3).2⟩)
          have hlen := HK1.out.len
          have H1 := Lib.hid h1
          have hcl := hc1
          clear h1
          go_wp2_with fail
          generalize w2.setCell ⟨kb, 1, none⟩ (.int .i64 ((z' : Int) + (r : Int))) = w3 at K3 B3 C3 O3 P3 F3 ⊢
          clear hcl hc1 hf1 K2 C2 B2 hcell HO hb2
          obtain ⟨i0, hi, hz0, hz1, hz2⟩ := info_parts Try.infoSl
          have HI := Lib.hid hi
          have HZ0 := Lib.hid hz0
          have HZ1 := Lib.hid hz1
          have HZ2 := Lib.hid hz2
          clear hi hz0 hz1 hz2
          have QL := Lib.hid (C3.out.cell t _ (Nat.le_refl _) HV.out)
          have q0 : ∀ p : In (fun w' => w'.cell? ⟨kb, 0, none⟩ = some lv' ∧ w'.cell? ⟨la, t, none⟩ = some (.slice (some ⟨g, 0, none⟩) bs.length cap)), p.w.cell? ⟨kb, 0, none⟩ = some lv' := fun p => p.h.1
          have ql : ∀ p : In (fun w' => w'.cell? ⟨kb, 0, none⟩ = some lv' ∧ w'.cell? ⟨la, t, none⟩ = some (.slice (some ⟨g, 0, none⟩) bs.length cap)), p.w.cell? ⟨la, t, none⟩ = some (.slice (some ⟨g, 0, none⟩) bs.length cap) := fun p => p.h.2
          go_wp2_with fail
          refine wp_region_mixed_tail [0, 1, 2, 3, 4, 5, 6, 7, 8, 9, 10, 11, 12] 13 (fun w' => w'.cell? ⟨kb, 0, none⟩ = some lv' ∧ w'.cell? ⟨la, t, none⟩ = some (.slice (some ⟨g, 0, none⟩) bs.length cap)) (by kernel_rfl) (by kernel_rfl) (by intro c a d v w h; cases d <;> exact h) ⟨K3.out.cell0, QL.out⟩ ?_
          intro hne
          simp only [pick, List.map_cons, List.map_nil, List.getD_cons_zero, List.getD_cons_succ, List.drop_succ_cons, List.drop_zero]
          refine wpMix_reads 9 _ (by kernel_rfl) ?_
          simp only [List.take_succ_cons, List.take_zero, List.drop_succ_cons, List.drop_zero]
          repeat (go_big_quiet_step (fail))
          refine wpQuiet_nil ?_
          have hbA : Below w3.heap.size w3 (w3.drew.alloc (.cells #[.slice (some ⟨g, 0, none⟩) bs.length cap] 31 (0, 0))) := below_trans (below_drew _) (below_alloc _ _)
          have K4 := Lib.hid (K3.out.keep hbA)
          have C4 := Lib.hid (C3.out.keep hbA)
          have O4 := Lib.hid (O3.out.keep hbA)
          have P4 : Hid (∀ (v : Value) (ds : List (BitVec 8)), OwnB w lo v ds → OwnB (w3.drew.alloc (.cells #[.slice (some ⟨g, 0, none⟩) bs.length cap] 31 (0, 0))) lo v ds) := Lib.hid fun v ds h => (P3.out v ds h).keep hbA
          have B4 := Lib.hid (B3.out.trans (hbA.mono (Nat.le_trans hlo B3.out.size)))
          have NW := Lib.hid (news_one w3.drew (.slice (some ⟨g, 0, none⟩) bs.length cap) 31 (0, 0))
          have LT := Lib.hid (heap_lt K4.out.box)
          have LA := Lib.hid (block_lt_of_cell (C4.out.cell t _ (Nat.le_refl _) HV.out))
          clear hbA
          refine wpMix_act rfl ?_ rfl
          go_wp2_with fail
          refine ⟨⟨⟨_, ⟨K4.out.cell0, C4.out.cell t _ (Nat.le_refl _) HV.out⟩⟩, rfl⟩, ?_⟩
          refine wpMix_act rfl ?_ rfl
          refine wpList_append_lies _ (o := ⟨some 53, _, _, _, _, _⟩) rfl _ _ 28 rfl lo 31 i0 (.slice none 0 0) 1 24 Try.underlying28 HI.out HZ0.out HZ1.out HZ2.out rfl (by decide) lv' xs'.length xs' rfl K4.out.list ⟨w3.heap.size, 0, none⟩ 1 1 [.slice (some ⟨g, 0, none⟩) bs.length cap] rfl rfl NW.out (fun u hu => by obtain rfl := List.mem_singleton.1 hu; rfl) (by decide) (by simp only [maxLen]; omega) (by omega) (Nat.le_trans hlo B4.out.size) _ rfl ?_
          intro g4 cap4 w5 ho5 hg5 hat hl5
          have K6 := Lib.hid (K4.out.push O4.out (by simp [Value.ownBlock]) (fun y hy => C4.out.new t _ (Nat.le_refl _) HV.out g rfl y hy) (by have := H1.out; omega) ho5 hg5 hat)
          have B6 := Lib.hid ((B4.out.grown hg5 (Nat.le_trans hlo B4.out.size) (fun k hk => (rows_blk K4.out.list hk).1)).setCell (p := ⟨kb, 0, none⟩) K4.out.low (.slice (some ⟨g4, 0, none⟩) (xs'.length + 1) cap4))
          have P6 : Hid (∀ (v : Value) (ds : List (BitVec 8)), OwnB w lo v ds → OwnB (w5.setCell ⟨kb, 0, none⟩ (.slice (some ⟨g4, 0, none⟩) (xs'.length + 1) cap4)) lo v ds) := Lib.hid fun v ds h => K4.out.own_push hg5 (P4.out v ds h)
          have F6 : Hid (∀ p, p < w.heap.size → p ≠ kb → lv.ownBlock ≠ some p → (w5.setCell ⟨kb, 0, none⟩ (.slice (some ⟨g4, 0, none⟩) (xs'.length + 1) cap4)).heap[p]? = w.heap[p]? ∧ (Value.slice (some ⟨g4, 0, none⟩) (xs'.length + 1) cap4).ownBlock ≠ some p) := Lib.hid fun p h1 h2 h3 => by
            obtain ⟨f1, f2⟩ := F3.out p h1 h2 h3
            have hp3 : p < w3.heap.size := Nat.lt_of_lt_of_le h1 B3.out.size
            have hpA : p < (w3.drew.alloc (.cells #[.slice (some ⟨g, 0, none⟩) bs.length cap] 31 (0, 0))).heap.size := by simp; omega
            refine ⟨?_, fun e => ?_⟩
            · rw [push_block (kb := kb) hg5 hpA h2 f2]
              exact ((below_trans (below_drew w3) (below_alloc _ _)).block p hp3).trans f1
            · have e : g4 = p := by simpa [Value.ownBlock] using e
              subst e
              rcases hat with h | h
              · exact f2 h
              · exact Nat.lt_irrefl _ (Nat.lt_of_lt_of_le hpA (Nat.le_of_eq h.symm))
          have S6 : Hid (Short (xs' ++ [.slice (some ⟨g, 0, none⟩) bs.length cap])) := Lib.hid fun x hx a n c e => by
            rcases List.mem_append.1 hx with hx | hx
            · exact hS.out x hx a n c e
            · obtain rfl := List.mem_singleton.1 hx
              injection e with _ e _
              have := hmr.out
              omega
          have M6 : Hid (∀ x ∈ xs' ++ [.slice (some ⟨g, 0, none⟩) bs.length cap], x ∈ xs ∨ x ∈ vs) := Lib.hid fun x hx => by
            rcases List.mem_append.1 hx with hx | hx
            · exact hM.out x hx
            · obtain rfl := List.mem_singleton.1 hx
              exact .inr (List.mem_of_getElem? HV.out)
          have hLA : lv'.ownBlock ≠ some la := hL.out
          have C5 := C4.out.move (push_block (kb := kb) (v' := .slice (some ⟨g4, 0, none⟩) (xs'.length + 1) cap4) hg5 LA.out (fun e => HKL.out e.symm) hLA) (fun v bs ho => K4.out.own_push hg5 ho)
          have C6 : Hid (Come (w5.setCell ⟨kb, 0, none⟩ (.slice (some ⟨g4, 0, none⟩) (xs'.length + 1) cap4)) lo la (xs' ++ [.slice (some ⟨g, 0, none⟩) bs.length cap]) vs (t + 1)) := Lib.hid ⟨fun j v hj hv => C5.cell j v (by omega) hv, fun j v hj hv => C5.own j v (by omega) hv, fun j v hj hv p hp x hx => by
            rcases List.mem_append.1 hx with hx | hx
            · exact C5.new j v (by omega) hv p hp x hx
            · obtain rfl := List.mem_singleton.1 hx
              rcases C5.apart t j _ v (by omega) HV.out hv with h | h
              · cases h
              · rw [← hp]; exact h, C5.apart⟩
          have L6 : Hid ((Value.slice (some ⟨g4, 0, none⟩) (xs'.length + 1) cap4).ownBlock ≠ some la) := Lib.hid (fun e => by
            have e : g4 = la := by simpa [Value.ownBlock] using e
            subst e
            rcases hat with h | h
            · exact hLA h
            · exact Nat.lt_irrefl _ (Nat.lt_of_lt_of_le LA.out (Nat.le_of_eq h.symm)))
          have q5 : w5.cell? ⟨kb, 0, none⟩ = some lv' := (World.cell?_of_block (a := ⟨kb, 0, none⟩) (hg5.block kb LT.out (fun e => (K4.out.list_ne e.symm).1 rfl))).trans K4.out.cell0
          have f5 : w5.frozen? ⟨kb, 0, none⟩ = false := (World.frozen?_of_block (a := ⟨kb, 0, none⟩) (hg5.block kb LT.out (fun e => (K4.out.list_ne e.symm).1 rfl))).trans (K4.out.free 0)
          have ql5 : w5.cell? ⟨la, t, none⟩ = some (.slice (some ⟨g, 0, none⟩) bs.length cap) := (World.cell?_of_block (a := ⟨la, t, none⟩) (hg5.block la LA.out (fun e => hLA e.symm))).trans (C4.out.cell t _ (Nat.le_refl _) HV.out)
          clear ho5 hg5 hat hl5 hLA C5 K4 C4 O4 B4 K3 B3 C3 O3 NW LT LA
          refine ⟨⟨⟨_, ⟨q5, ql5⟩⟩, rfl⟩, ?_⟩
          refine wpMix_reads 2 _ (by kernel_rfl) ?_
          simp only [List.take_succ_cons, List.take_zero, List.drop_succ_cons, List.drop_zero, Act.put, List.setIfInBounds_toArray, List.set_cons_zero, List.set_cons_succ]
          repeat (go_big_quiet_step (fail))
          refine wpQuiet_nil ?_
          refine wpMix_nil ?_
          clear hne q0 ql ql5
          change wpList _ _ _ _ _ _
          go_wp2_with fail
          go_roundw
          case rel => exact ⟨t + 1, _, _, _, by omega, by go_num, K6.out, C6, L6, B6.out, P6, F6, S6, M6⟩
          case measure => simp [intOf]; omega
    · have hge : (vs.length : Int) ≤ (t : Int) := by omega
      go_wp2_with fail
      refine ⟨rfl, _, results_none rfl _ _ _, rfl, ?_⟩
      exact ⟨lv', z', xs', HK1.out, HB1.out, hP.out, fun p h1 h2 h3 => (hF.out p h1 h2 h3).1, hS.out, hM.out, fun p h1 h2 h3 => (hF.out p h1 h2 h3).2⟩
end Go.Proofs.Ytfadpjljokpenaa

/- What a scan goes over, in plain words; the walks of why, along and the iterator that along hands back. -/
import Derived.Test.YtfadpjljokpenaaFrameReads
import Derived.RangeFuncKeeps
import Derived.RangeFuncLeaves
import Derived.RangeFuncNested
import Derived.Shelf.Abstract
import Derived.OwnWalkIn
import Derived.TacticsInMore
import Derived.LoopNIn
import Derived.LoopIn
namespace Go.Proofs.Ytfadpjljokpenaa
open Go.RowKit Go.Shelf

/-- Where a scan stands: how many frames, where it ends, the number and the seed that come next. -/
structure ScV where
  count : Nat
  end_ : Nat
  next : Int
  seed : BitVec 32
def scVal (s : ScV) (why : Int) : Value := .agg #[.int .i64 s.count, .int .i64 s.end_, .int .i64 s.next, .int .u32 (bv s.seed), .int .i64 why]
def rdS (bs : List (BitVec 8)) (s : ScV) : Rd := rF s.seed (bs.drop s.end_)
def goS (bs : List (BitVec 8)) (s : ScV) : Prop := s.end_ < bs.length ∧ (rdS bs s).err = 0 ∧ bv (rdS bs s).lsn = s.next
def nextS (bs : List (BitVec 8)) (s : ScV) : ScV := ⟨s.count + 1, s.end_ + (rdS bs s).n, s.next + 1, (rdS bs s).sum⟩
def whyS (bs : List (BitVec 8)) (s : ScV) : Nat := if s.end_ < bs.length then (if (rdS bs s).err ≠ 0 then (rdS bs s).err else 6) else 1
def iterS (bs : List (BitVec 8)) (s : ScV) : Nat → ScV
  | 0 => s
  | i + 1 => nextS bs (iterS bs s i)
/-- The bounds of a scan that stands somewhere. -/
structure OkS (bs : List (BitVec 8)) (s : ScV) : Prop where
  le : s.end_ ≤ bs.length
  count : s.count ≤ s.end_
  lo : -9223372036854775808 ≤ s.next
  hi : s.next ≤ 9223372036854775807
theorem goS_next {bs : List (BitVec 8)} {s : ScV} (h : goS bs s) (k : OkS bs s) : OkS bs (nextS bs s) ∧ s.end_ + 16 ≤ (nextS bs s).end_ ∧ s.next ≤ 9223372036854775806 := by
  obtain ⟨h1, h2, h3⟩ := h
  obtain ⟨r1, r2, r3, r4, r5, r6, r7⟩ := rF_ok h2
  have e4 : (rdS bs s).n = 16 + (rdS bs s).data.length := r4
  have e5 : (rdS bs s).n ≤ (bs.drop s.end_).length := r5
  rw [List.length_drop] at e5
  have hx : s.next = ((rdS bs s).lsn.toNat : Int) := h3.symm
  have e2 : (rdS bs s).lsn.toNat ≤ 9223372036854775806 := r2
  have e1 : 1 ≤ (rdS bs s).lsn.toNat := r1
  have kc := k.count
  refine ⟨⟨?_, ?_, ?_, ?_⟩, ?_, ?_⟩
  · show s.end_ + (rdS bs s).n ≤ bs.length; omega
  · show s.count + 1 ≤ s.end_ + (rdS bs s).n; omega
  · show -9223372036854775808 ≤ s.next + 1; omega
  · show s.next + 1 ≤ 9223372036854775807; omega
  · show s.end_ + 16 ≤ s.end_ + (rdS bs s).n; omega
  · omega
theorem iterS_ok {bs : List (BitVec 8)} {s : ScV} (k : OkS bs s) : ∀ i, (∀ j, j < i → goS bs (iterS bs s j)) → OkS bs (iterS bs s i)
  | 0, _ => k
  | i + 1, h => (goS_next (h i (by omega)) (iterS_ok k i fun j hj => h j (by omega))).1
theorem rF_err (seed : BitVec 32) (bs : List (BitVec 8)) : (rF seed bs).err ≤ 5 ∧ (rF seed bs).err ≠ 1 := by
  unfold rF
  repeat' split
  all_goals first | exact ⟨by decide, by decide⟩ | exact (show (0 : Nat) ≤ 5 ∧ (0 : Nat) ≠ 1 from by decide)

set_option maxRecDepth 100000 in
theorem scan_why (e : Nat) (w : World) (h : e ≤ 5 ∧ 2 ≤ e) :
    Calls Try.prog 97 #[.int .i64 e] w fun x w' => x = .returned (.int .i64 e) ∧ w = w' := by
  have hc : e = 2 ∨ e = 3 ∨ e = 4 ∨ e = 5 := by omega
  rcases hc with rfl | rfl | rfl | rfl
  all_goals
    go_enter Try.func97, Try.ntmps97
    go_wp2_with fail
    go_ret
    exact ⟨rfl, rfl⟩

/-- The iterator's memory: its state in block B; the bytes' box. -/
structure ItAt (B bB : Nat) (ao : Option Addr) (cap : Nat) (bs : List (BitVec 8)) (s : ScV) (w : World) : Prop where
  c0 : w.cell? ⟨B, 0, none⟩ = some (.int .i64 s.count)
  c1 : w.cell? ⟨B, 1, none⟩ = some (.int .i64 s.end_)
  c2 : w.cell? ⟨B, 2, none⟩ = some (.int .i64 s.next)
  c3 : w.cell? ⟨B, 3, none⟩ = some (.int .u32 (bv s.seed))
  c4 : w.cell? ⟨B, 4, none⟩ = some (.int .i64 0)
  fr : ∀ j, w.frozen? ⟨B, j, none⟩ = false
  cb : w.cell? ⟨bB, 0, none⟩ = some (.slice ao bs.length cap)
  bytes : BytesAt w ao bs
  ne : bB ≠ B
  off : ∀ g o, ao = some ⟨g, o, none⟩ → bs ≠ [] → g ≠ B
theorem ItAt.lt {B bB cap : Nat} {ao : Option Addr} {bs : List (BitVec 8)} {s : ScV} {w : World} (h : ItAt B bB ao cap bs s w) : B < w.heap.size := block_lt_of_cell h.c0
theorem ItAt.on {B bB cap : Nat} {ao : Option Addr} {bs : List (BitVec 8)} {s : ScV} {w w' : World} (h : ItAt B bB ao cap bs s w) (hb : Below w.heap.size w w') : ItAt B bB ao cap bs s w' :=
  ⟨cell_keep hb h.c0, cell_keep hb h.c1, cell_keep hb h.c2, cell_keep hb h.c3, cell_keep hb h.c4, fun j => (hb.frozen (p := ⟨B, j, none⟩) h.lt).trans (h.fr j), cell_keep hb h.cb, h.bytes.below hb, h.ne, h.off⟩
/-- What a round leaves to the iterator: its own block, the bytes' box, the bytes. -/
structure KeepIt (B bB : Nat) (ao : Option Addr) (w w' : World) : Prop where
  size : w.heap.size ≤ w'.heap.size
  own : B < w.heap.size → w'.heap[B]? = w.heap[B]?
  box : bB < w.heap.size → w'.heap[bB]? = w.heap[bB]?
  bytes : ∀ g o, ao = some ⟨g, o, none⟩ → g < w.heap.size → w'.heap[g]? = w.heap[g]?
theorem ItAt.kept {B bB cap : Nat} {ao : Option Addr} {bs : List (BitVec 8)} {s : ScV} {w w' : World} (h : ItAt B bB ao cap bs s w) (hk : KeepIt B bB ao w w') : ItAt B bB ao cap bs s w' := by
  have hc : ∀ j, w'.cell? ⟨B, j, none⟩ = w.cell? ⟨B, j, none⟩ := fun j => World.cell?_of_block (a := ⟨B, j, none⟩) (hk.own h.lt)
  refine ⟨(hc 0).trans h.c0, (hc 1).trans h.c1, (hc 2).trans h.c2, (hc 3).trans h.c3, (hc 4).trans h.c4, fun j => ?_, (World.cell?_of_block (a := ⟨bB, 0, none⟩) (hk.box (block_lt_of_cell h.cb))).trans h.cb, fun i hi => ?_, h.ne, h.off⟩
  · have := h.fr j
    unfold World.frozen? at *
    rw [hk.own h.lt]; exact this
  · obtain ⟨g, o, e, hcell⟩ := h.bytes i hi
    exact ⟨g, o, e, (World.cell?_of_block (a := ⟨g, o + i, none⟩) (hk.bytes g o e (block_lt_of_cell hcell))).trans hcell⟩

attribute [local go_sem] Oper.semAt_some
/-- How far a scan has to go, read off the world. -/
def leftS (B n : Nat) (w : World) : Nat := n + 1 - (match w.cell? ⟨B, 1, none⟩ with
  | some v => (intOf v).toNat
  | none => 0)
theorem leftS_at {B bB cap : Nat} {ao : Option Addr} {bs : List (BitVec 8)} {s : ScV} {w : World} (h : ItAt B bB ao cap bs s w) : leftS B bs.length w = bs.length + 1 - s.end_ := by
  unfold leftS
  rw [h.c1]
  simp [intOf]

/-- The state's cells behind a store of why it ends. -/
structure ItWhy (B : Nat) (s : ScV) (y : Int) (w : World) : Prop where
  c0 : w.cell? ⟨B, 0, none⟩ = some (.int .i64 s.count)
  c1 : w.cell? ⟨B, 1, none⟩ = some (.int .i64 s.end_)
  c2 : w.cell? ⟨B, 2, none⟩ = some (.int .i64 s.next)
  c3 : w.cell? ⟨B, 3, none⟩ = some (.int .u32 (bv s.seed))
  c4 : w.cell? ⟨B, 4, none⟩ = some (.int .i64 y)
theorem it_why {B bB cap : Nat} {ao : Option Addr} {bs : List (BitVec 8)} {s : ScV} {w : World} (h : ItAt B bB ao cap bs s w) (y : Int) : ItWhy B s y (w.setCell ⟨B, 4, none⟩ (.int .i64 y)) := by
  have o : ∀ j, j ≠ 4 → (w.setCell ⟨B, 4, none⟩ (.int .i64 y)).cell? ⟨B, j, none⟩ = w.cell? ⟨B, j, none⟩ := fun j hj => World.cell?_setCell_other _ _ _ _ (by intro e; injection e; omega)
  exact ⟨(o 0 (by omega)).trans h.c0, (o 1 (by omega)).trans h.c1, (o 2 (by omega)).trans h.c2, (o 3 (by omega)).trans h.c3, World.cell?_setCell_same _ _ _ h.c4⟩
theorem bytes_but {c : Nat} {w w' : World} {ao : Option Addr} {bs : List (BitVec 8)} (h : BytesAt w ao bs) (hu : But c w w') (hc : ∀ g off, ao = some ⟨g, off, none⟩ → bs ≠ [] → g ≠ c) : BytesAt w' ao bs := fun i hi => by
  obtain ⟨g, off, e, hcell⟩ := h i hi
  exact ⟨g, off, e, hu.cell hcell (hc g off e (by intro h0; subst h0; simp at hi))⟩
/-- The iterator has gone on. -/
theorem it_next {B bB cap : Nat} {ao : Option Addr} {bs : List (BitVec 8)} {s : ScV} {w : World} (h : ItAt B bB ao cap bs s w) (t : ScV) :
    ItAt B bB ao cap bs t ((((w.setCell ⟨B, 0, none⟩ (.int .i64 t.count)).setCell ⟨B, 1, none⟩ (.int .i64 t.end_)).setCell ⟨B, 2, none⟩ (.int .i64 t.next)).setCell ⟨B, 3, none⟩ (.int .u32 (bv t.seed))) ∧
      But B w ((((w.setCell ⟨B, 0, none⟩ (.int .i64 t.count)).setCell ⟨B, 1, none⟩ (.int .i64 t.end_)).setCell ⟨B, 2, none⟩ (.int .i64 t.next)).setCell ⟨B, 3, none⟩ (.int .u32 (bv t.seed))) := by
  have o : ∀ (u : World) (j k : Nat) (v : Value), j ≠ k → (u.setCell ⟨B, k, none⟩ v).cell? ⟨B, j, none⟩ = u.cell? ⟨B, j, none⟩ := fun u j k v hj => World.cell?_setCell_other _ _ _ _ (by intro e; injection e; omega)
  have hu : But B w ((((w.setCell ⟨B, 0, none⟩ (.int .i64 t.count)).setCell ⟨B, 1, none⟩ (.int .i64 t.end_)).setCell ⟨B, 2, none⟩ (.int .i64 t.next)).setCell ⟨B, 3, none⟩ (.int .u32 (bv t.seed))) := ((((But.refl B w).setB 0 _).setB 1 _).setB 2 _).setB 3 _
  refine ⟨⟨?_, ?_, ?_, ?_, ?_, fun j => ?_, hu.cell h.cb (by simp only; exact h.ne), bytes_but h.bytes hu h.off, h.ne, h.off⟩, hu⟩
  · rw [o _ 0 3 _ (by omega), o _ 0 2 _ (by omega), o _ 0 1 _ (by omega)]; exact World.cell?_setCell_same _ _ _ h.c0
  · rw [o _ 1 3 _ (by omega), o _ 1 2 _ (by omega)]; exact World.cell?_setCell_same _ _ _ ((o _ 1 0 _ (by omega)).trans h.c1)
  · rw [o _ 2 3 _ (by omega)]; exact World.cell?_setCell_same _ _ _ ((o _ 2 1 _ (by omega)).trans ((o _ 2 0 _ (by omega)).trans h.c2))
  · exact World.cell?_setCell_same _ _ _ ((o _ 3 2 _ (by omega)).trans ((o _ 3 1 _ (by omega)).trans ((o _ 3 0 _ (by omega)).trans h.c3)))
  · rw [o _ 4 3 _ (by omega), o _ 4 2 _ (by omega), o _ 4 1 _ (by omega), o _ 4 0 _ (by omega)]; exact h.c4
  · rw [World.frozen?_setCell, World.frozen?_setCell, World.frozen?_setCell, World.frozen?_setCell]; exact h.fr j
set_option maxRecDepth 100000 in
set_option maxHeartbeats 4000000 in
theorem along_it (bN bS bB : Nat) (ao : Option Addr) (cap : Nat) (bs : List (BitVec 8)) (s0 : ScV) (m l : Nat) (J : Nat → World → Prop) (Jx Jz : World → Prop) (W : World) (hs0 : s0.count = 0 ∧ s0.end_ = 0) (hok : OkS bs s0)
    (hbN : W.cell? ⟨bN, 0, none⟩ = some (.int .i64 s0.next)) (hbS : W.cell? ⟨bS, 0, none⟩ = some (.int .u32 (bv s0.seed))) (hbB : W.cell? ⟨bB, 0, none⟩ = some (.slice ao bs.length cap)) (hby : BytesAt W ao bs) (hn : ao = none → cap = 0) (hc : bs.length ≤ cap) (hm : cap ≤ 9223372036854775807) (hl : bs.length ≤ 140737488363520)
    (hJ : ∀ i W1 W2, J i W1 → But W.heap.size W1 W2 → J i W2)
    (hGo : ∀ i W0 W1 v, (∀ j, j < i → goS bs (iterS bs s0 j)) → goS bs (iterS bs s0 i) → J i W0 → W.heap.size < W0.heap.size → But W.heap.size W0 W1 → OwnB W1 W0.heap.size v (rdS bs (iterS bs s0 i)).data →
      YieldAt Fence.wide m Try.prog l #[scVal (iterS bs s0 i) 0, .agg #[.int .i64 (bv (rdS bs (iterS bs s0 i)).lsn), v]] W1 fun e W2 => (e = .returned (.bool true) ∧ J (i + 1) W2 ∧ KeepIt W.heap.size bB ao W1 W2) ∨ (e = .returned (.bool false) ∧ Jx W2))
    (hEnd : ∀ i W0 W1, (∀ j, j < i → goS bs (iterS bs s0 j)) → ¬ goS bs (iterS bs s0 i) → J i W0 → But W.heap.size W0 W1 →
      YieldAt Fence.wide m Try.prog l #[scVal (iterS bs s0 i) ((whyS bs (iterS bs s0 i) : Nat) : Int), .agg #[.int .i64 0, .slice none 0 0]] W1 fun e W2 => (∃ t, e = .returned (.bool t)) ∧ Jz W2)
    (h0 : J 0 W) :
    CallsIn Fence.wide (m + 1) Try.prog 96 #[.func (.yield l) #[] #[], .pointer (some ⟨bN, 0, none⟩), .pointer (some ⟨bS, 0, none⟩), .pointer (some ⟨bB, 0, none⟩)] W fun e W' => (∃ v, e = .returned v) ∧ (Jx W' ∨ Jz W') := by
  have HJ := Lib.hid hJ
  have HGo := Lib.hid hGo
  have HEnd := Lib.hid hEnd
  have H0 := Lib.hid h0
  have HBy := Lib.hid hby
  have HOK := Lib.hid hok
  have HNN := Lib.hid hn
  obtain ⟨hz1, hz2⟩ := hs0
  have HA : Hid (ItAt W.heap.size bB ao cap bs s0 (W.alloc (.cells #[.int .i64 0, .int .i64 0, .int .i64 s0.next, .int .u32 (bv s0.seed), .int .i64 0] 57))) := Lib.hid (by
    have h1 := heap_alloc_new W (.cells #[.int .i64 0, .int .i64 0, .int .i64 s0.next, .int .u32 (bv s0.seed), .int .i64 0] 57)
    have b1 := below_alloc W (.cells #[.int .i64 0, .int .i64 0, .int .i64 s0.next, .int .u32 (bv s0.seed), .int .i64 0] 57)
    exact ⟨by rw [hz1]; exact cell_of_row _ _ 0 _ _ _ h1, by rw [hz2]; exact cell_of_row _ _ 1 _ _ _ h1, cell_of_row _ _ 2 _ _ _ h1, cell_of_row _ _ 3 _ _ _ h1, cell_of_row _ _ 4 _ _ _ h1, fun j => frozen_of_row _ _ j _ _ h1, cell_keep b1 hbB, hby.below b1, by have := block_lt_of_cell hbB; simp only at this; omega, fun g o e h => by
      have hp := List.length_pos_iff.2 h
      obtain ⟨g', o', e', hcell⟩ := hby 0 hp
      rw [e] at e'
      injection e' with e'; injection e' with e1 e2
      subst e1
      have := block_lt_of_cell hcell
      simp only at this; omega⟩)
  have HU0 := Lib.hid ((But.refl W.heap.size W).of_below (below_alloc W (.cells #[.int .i64 0, .int .i64 0, .int .i64 s0.next, .int .u32 (bv s0.seed), .int .i64 0] 57)))
  clear hJ hGo hEnd h0 hby hok hn
  refine callsIn_of_wp Try.func96 rfl trivial ?_ rfl
  simp only [Try.ntmps96, List.size_toArray, List.length_cons, List.length_nil, Nat.reduceAdd, Nat.reduceSub, Array.replicate_succ, Array.replicate_zero, List.push_toArray, List.append_toArray, List.nil_append, List.cons_append]
  gi_wp2
  clear hbN hbS hbB hz1 hz2
  gi_loopw [6, 7, 8, 9] (fun _ _ _ _ wr => ∃ (i : Nat) (s : ScV), Hid (∀ j, j < i → goS bs (iterS bs s0 j)) ∧ Hid (iterS bs s0 i = s) ∧ Hid (OkS bs s) ∧ J i wr ∧ ItAt W.heap.size bB ao cap bs s wr) (fun _ _ _ _ wr => leftS W.heap.size bs.length wr)
  case atStart => exact ⟨0, s0, Lib.hid (fun j hj => by omega), Lib.hid rfl, HOK, HJ.out 0 _ _ H0.out HU0.out, HA.out⟩
  case round =>
    obtain ⟨i, s, hg, hi, hk, hJi, hA⟩ := hrel
    have JI := Lib.hid hJi
    have IA := Lib.hid hA
    have c1 := hA.c1
    have cb := hA.cb
    have kle := hk.out.le
    clear hJi hA HA H0 HU0
    by_cases hlt : s.end_ < bs.length
    · have hlt' : (s.end_ : Int) < (bs.length : Int) := by omega
      obtain ⟨gb, off, rfl, -⟩ := IA.out.bytes 0 (by omega)
      obtain ⟨r, hr⟩ : ∃ r, rdS bs s = r := ⟨_, rfl⟩
      have HR := Lib.hid hr
      have XD := Lib.hid (IA.out.bytes.drop s.end_)
      have kc : ¬ cap = s.end_ := by omega
      have qs0 : ∀ p : In (ItAt W.heap.size bB (some ⟨gb, off, none⟩) cap bs s), p.w.cell? ⟨W.heap.size, 1, none⟩ = some (.int .i64 s.end_) := fun p => p.h.c1
      have qs1 : ∀ p : In (ItAt W.heap.size bB (some ⟨gb, off, none⟩) cap bs s), p.w.cell? ⟨W.heap.size, 3, none⟩ = some (.int .u32 (bv s.seed)) := fun p => p.h.c3
      have qs2 : ∀ p : In (ItAt W.heap.size bB (some ⟨gb, off, none⟩) cap bs s), p.w.cell? ⟨bB, 0, none⟩ = some (.slice (some ⟨gb, off, none⟩) bs.length cap) := fun p => p.h.cb
      clear hr
      gi_wp2
      refine wpIn_wide.2 ?_
      refine wp_region_fork [0, 1, 2, 3, 4, 5] 6 12 [7, 8, 9, 10, 11, 12, 13, 14, 15, 16] [6, 7, 8, 9, 10, 11, 13, 14, 15, 16] (ItAt W.heap.size bB (some ⟨gb, off, none⟩) cap bs s) (by kernel_rfl) (by kernel_rfl) (by intro c a d v w h; cases d <;> exact h) (IA.out.on (below_drew _)) ?_
      intro hne
      simp only [pick, List.map_cons, List.map_nil, List.getD_cons_zero, List.getD_cons_succ]
      repeat (go_big_quiet_step (fail))
      refine wpQuiet_nil ?_
      refine ⟨?_, ?_⟩
      · refine wpMix_act rfl ?_ rfl
        go_wp2_with fail
        refine (frame_read_x _ s.seed _ (bs.drop s.end_) _ (cap - s.end_) _ rfl (XD.out.below (below_drew wr)) List.length_drop (fun h => by cases h) (by omega) (by omega) r HR.out).mono ?_
        rintro e x1 ⟨vq, he, hO, hb⟩
        obtain ⟨aq, cq, rfl, -, -, -, -, -⟩ := hO.slice
        subst he
        have CX := Lib.hid (IA.out.on (below_trans (below_drew _) hb))
        have BQ := Lib.hid (below_trans (below_drew wr) (below_trans hb (below_alloc x1 (.cells #[.int .i64 (bv r.lsn), .slice aq r.data.length cq] 34))))
        have Q := Lib.hid (rec_new x1 (bv r.lsn) (.slice aq r.data.length cq))
        have OQ := Lib.hid (show OwnB (x1.alloc (.cells #[.int .i64 (bv r.lsn), .slice aq r.data.length cq] 34)) wr.heap.size (.slice aq r.data.length cq) r.data from OwnB.keep hO (below_alloc x1 (.cells #[.int .i64 (bv r.lsn), .slice aq r.data.length cq] 34)))
        have HZ := heap_alloc_new x1 (.cells #[.int .i64 0, .slice none 0 0] 34)
        have z0 := cell_of_row _ _ 0 _ _ _ HZ
        have z1 := cell_of_row _ _ 1 _ _ _ HZ
        have fz0 := frozen_of_row _ _ 0 _ _ HZ
        have fz1 := frozen_of_row _ _ 1 _ _ HZ
        have CZ := Lib.hid (CX.out.on (below_alloc x1 (.cells #[.int .i64 0, .slice none 0 0] 34)))
        have CF := Lib.hid (CX.out.on (below_alloc x1 (.cells #[.int .i64 (bv r.lsn), .slice aq r.data.length cq] 34)))
        clear hO hb HZ
        go_wp2_with fail
        refine ⟨⟨⟨_, CX.out⟩, rfl⟩, ?_⟩
        refine wpMix_reads 5 _ (by kernel_rfl) ?_
        simp only [List.take_succ_cons, List.take_zero, List.drop_succ_cons, List.drop_zero]
        repeat (go_big_quiet_step (fail))
        refine wpQuiet_nil ?_
        refine wpMix_act rfl ?_ rfl
        go_wp2_with fail
        refine ⟨⟨⟨_, CZ.out⟩, rfl⟩, ?_⟩
        refine wpMix_act rfl ?_ rfl
        go_wp2_with fail
        refine ⟨⟨⟨_, CF.out⟩, rfl⟩, ?_⟩
        refine wpMix_reads 3 _ (by kernel_rfl) ?_
        simp only [List.take_succ_cons, List.take_zero, List.drop_succ_cons, List.drop_zero]
        repeat (go_big_quiet_step (fail))
        refine wpQuiet_nil ?_
        refine wpMix_nil ?_
        clear hne z0 z1 fz0 fz1 CX CZ CF qs0 qs1 qs2
        obtain ⟨wq, hwq⟩ : ∃ wq, x1.alloc (.cells #[.int .i64 (bv r.lsn), .slice aq r.data.length cq] 34) = wq := ⟨_, rfl⟩
        rw [hwq] at BQ Q OQ
        rw [hwq]
        clear hwq
        have IQ := Lib.hid (IA.out.on BQ.out)
        have q0 := Q.out.c0
        have q1 := Q.out.c1
        have d0 := IQ.out.c0
        have d1 := IQ.out.c1
        have d2 := IQ.out.c2
        have d3 := IQ.out.c3
        have d4 := IQ.out.c4
        have f0 := IQ.out.fr 0
        have f1 := IQ.out.fr 1
        have f2 := IQ.out.fr 2
        have f3 := IQ.out.fr 3
        have f4 := IQ.out.fr 4
        clear c1 cb
        by_cases hE : r.err = 0
        · have hE' : ((r.err : Nat) : Int) = 0 := by omega
          by_cases hN : bv r.lsn = s.next
          · have hgo : goS bs s := ⟨hlt, by rw [HR.out]; exact hE, by rw [HR.out]; exact hN⟩
            obtain ⟨hk2, he16, hnx⟩ := goS_next hgo hk.out
            obtain ⟨fn, tmps, assign, body, hy, hR⟩ := HGo.out i wr wq (.slice aq r.data.length cq) hg.out (by rw [hi.out]; exact hgo) JI.out IA.out.lt ((But.refl W.heap.size wr).of_below BQ.out) (by rw [hi.out, HR.out]; exact OQ.out)
            rw [hi.out, HR.out, hN] at hy
            unfold scVal at hy
            have NX := Lib.hid (show nextS bs s = ⟨s.count + 1, s.end_ + r.n, s.next + 1, r.sum⟩ by unfold nextS; rw [HR.out])
            have hkl : s.end_ + r.n ≤ bs.length := by have := hk2.le; rw [NX.out] at this; exact this
            have hcl : s.count ≤ s.end_ := hk.out.count
            have hlo := hk.out.lo
            have HK2 := Lib.hid hk2
            have HE16 := Lib.hid he16
            have HGN := Lib.hid hgo
            have hn1 : (s.end_ : Int) + (r.n : Int) ≤ 140737488363520 := by omega
            have hn2 : (s.count : Int) + 1 ≤ 140737488363520 := by omega
            have hn3 : s.next + 1 ≤ 9223372036854775807 := by omega
            clear hE hk2 he16 hgo
            gi_wp2
            refine hR.mono ?_
            rintro e W3 (⟨rfl, hJ3, hk3⟩ | ⟨rfl, hx⟩)
            · have I3 := Lib.hid (IQ.out.kept hk3)
              have J3 := Lib.hid hJ3
              clear hJ3 hk3 d0 d1 d2 d3 d4 f0 f1 f2 f3 f4 q0 q1 hy hR
              have d0 := I3.out.c0
              have d1 := I3.out.c1
              have d2 := I3.out.c2
              have d3 := I3.out.c3
              have f0 := I3.out.fr 0
              have f1 := I3.out.fr 1
              have f2 := I3.out.fr 2
              have f3 := I3.out.fr 3
              gi_wp2
              have N3 := it_next I3.out ⟨s.count + 1, s.end_ + r.n, s.next + 1, r.sum⟩
              dsimp only at N3
              simp only [Int.natCast_add, Int.natCast_one] at N3
              obtain ⟨n1, n2⟩ := N3
              go_roundw
              case rel => exact ⟨i + 1, ⟨s.count + 1, s.end_ + r.n, s.next + 1, r.sum⟩, Lib.hid (fun j hj => by
                by_cases e : j = i
                · subst e; rw [hi.out]; exact HGN.out
                · exact hg.out j (by omega)), Lib.hid (by show nextS bs (iterS bs s0 i) = _; rw [hi.out, NX.out]), Lib.hid (NX.out ▸ HK2.out), HJ.out (i + 1) _ _ J3.out n2, n1⟩
              case measure =>
                rw [leftS_at n1, leftS_at IA.out]
                have := HE16.out
                rw [NX.out] at this
                dsimp only at this ⊢
                omega
            · gi_wp2
              refine bodyPost_ret (results_none rfl _ _ _) rfl ?_
              exact ⟨⟨_, rfl⟩, .inl hx⟩
          · have hng : ¬ goS bs s := fun h => hN (by have := h.2.2; rw [HR.out] at this; exact this)
            have hw : whyS bs s = 6 := by unfold whyS; rw [if_pos hlt, HR.out, if_neg (fun h => h hE)]
            have K := Lib.hid (it_why IQ.out 6)
            have BU := Lib.hid ((((But.refl W.heap.size wr).of_below BQ.out)).setB 4 (.int .i64 6))
            obtain ⟨fn, tmps, assign, body, hy, hR⟩ := HEnd.out i wr _ hg.out (by rw [hi.out]; exact hng) JI.out BU.out
            rw [hi.out, hw, show ((6 : Nat) : Int) = 6 from rfl] at hy
            unfold scVal at hy
            have k0 := K.out.c0
            have k1 := K.out.c1
            have k2 := K.out.c2
            have k3 := K.out.c3
            have k4 := K.out.c4
            clear hE
            gi_wp2
            refine hR.mono ?_
            rintro e W3 ⟨⟨t, rfl⟩, hz⟩
            gi_wp2
            refine bodyPost_ret (results_none rfl _ _ _) rfl ?_
            exact ⟨⟨_, rfl⟩, .inr hz⟩
        · have hng : ¬ goS bs s := fun h => hE (by have := h.2.1; rw [HR.out] at this; exact this)
          have hw : whyS bs s = r.err := by unfold whyS; rw [if_pos hlt, HR.out, if_pos hE]
          have hr5' : r.err ≤ 5 ∧ 2 ≤ r.err := by
            have hr5 := rF_err s.seed (bs.drop s.end_)
            have : (rF s.seed (bs.drop s.end_)) = r := HR.out
            rw [this] at hr5; omega
          have K := Lib.hid (it_why IQ.out (r.err : Int))
          have BU := Lib.hid ((((But.refl W.heap.size wr).of_below BQ.out)).setB 4 (.int .i64 (r.err : Int)))
          obtain ⟨fn, tmps, assign, body, hy, hR⟩ := HEnd.out i wr _ hg.out (by rw [hi.out]; exact hng) JI.out BU.out
          rw [hi.out, hw] at hy
          unfold scVal at hy
          have k0 := K.out.c0
          have k1 := K.out.c1
          have k2 := K.out.c2
          have k3 := K.out.c3
          have k4 := K.out.c4
          have HR5 := Lib.hid hr5'
          have hE' : ¬ ((r.err : Nat) : Int) = 0 := by omega
          clear hE hr5'
          gi_wp2
          refine ⟨trivial, (callsIn_wide.2 (scan_why r.err _ HR5.out)).mono ?_⟩
          rintro e W2 ⟨rfl, rfl⟩
          gi_wp2
          refine hR.mono ?_
          rintro e W3 ⟨⟨t, rfl⟩, hz⟩
          gi_wp2
          refine bodyPost_ret (results_none rfl _ _ _) rfl ?_
          exact ⟨⟨_, rfl⟩, .inr hz⟩
      · have bz : Below wr.heap.size wr (wr.alloc (.cells #[.int .i64 0, .slice none 0 0] 34)).drew := below_trans (below_alloc wr (.cells #[.int .i64 0, .slice none 0 0] 34)) (below_drew _)
        have BZ := Lib.hid bz
        have SZ0 : (wr.alloc (.cells #[.int .i64 0, .slice none 0 0] 34)).heap.size = wr.heap.size + 1 := by show (wr.heap.push _).size = _; rw [Array.size_push]
        have SZ := Lib.hid SZ0
        have CZ := Lib.hid (IA.out.on bz)
        have HZ := heap_alloc_new wr (.cells #[.int .i64 0, .slice none 0 0] 34)
        have Z0 := Lib.hid (show ((wr.alloc (.cells #[.int .i64 0, .slice none 0 0] 34)).drew).cell? ⟨wr.heap.size, 0, none⟩ = some (.int .i64 0) from cell_of_row _ _ 0 _ _ _ HZ)
        have Z1 := Lib.hid (show ((wr.alloc (.cells #[.int .i64 0, .slice none 0 0] 34)).drew).cell? ⟨wr.heap.size, 1, none⟩ = some (.slice none 0 0) from cell_of_row _ _ 1 _ _ _ HZ)
        have FZ := Lib.hid (show ∀ j, ((wr.alloc (.cells #[.int .i64 0, .slice none 0 0] 34)).drew).frozen? ⟨wr.heap.size, j, none⟩ = false from fun j => frozen_of_row _ _ j _ _ HZ)
        clear bz HZ SZ0
        refine wpMix_act rfl ?_ rfl
        go_wp2_with fail
        refine ⟨⟨⟨_, CZ.out⟩, rfl⟩, ?_⟩
        refine wpMix_act rfl ?_ rfl
        go_wp2_with fail
        refine (frame_read_x _ s.seed _ (bs.drop s.end_) _ (cap - s.end_) _ rfl (XD.out.below BZ.out) List.length_drop (fun h => by cases h) (by omega) (by omega) r HR.out).mono ?_
        rintro e x1 ⟨vq, he, hO, hb⟩
        obtain ⟨aq, cq, rfl, -, -, -, -, -⟩ := hO.slice
        subst he
        have hl2 : wr.heap.size < ((wr.alloc (.cells #[.int .i64 0, .slice none 0 0] 34)).drew).heap.size := by show wr.heap.size < (wr.alloc (.cells #[.int .i64 0, .slice none 0 0] 34)).heap.size; rw [SZ.out]; omega
        have CX := Lib.hid (CZ.out.on hb)
        have z0 := cell_keep hb Z0.out
        have z1 := cell_keep hb Z1.out
        have fz0 := (hb.frozen (p := ⟨wr.heap.size, 0, none⟩) hl2).trans (FZ.out 0)
        have fz1 := (hb.frozen (p := ⟨wr.heap.size, 1, none⟩) hl2).trans (FZ.out 1)
        have bu : But wr.heap.size x1 ((x1.setCell ⟨wr.heap.size, 0, none⟩ (.int .i64 (bv r.lsn))).setCell ⟨wr.heap.size, 1, none⟩ (.slice aq r.data.length cq)) := ((But.refl wr.heap.size x1).setB 0 _).setB 1 _
        have BQ := Lib.hid (show Below wr.heap.size wr ((x1.setCell ⟨wr.heap.size, 0, none⟩ (.int .i64 (bv r.lsn))).setCell ⟨wr.heap.size, 1, none⟩ (.slice aq r.data.length cq)) from ((below_trans BZ.out hb).setCell (p := ⟨wr.heap.size, 0, none⟩) (Nat.le_refl _) _).setCell (p := ⟨wr.heap.size, 1, none⟩) (Nat.le_refl _) _)
        have zz : (x1.setCell ⟨wr.heap.size, 0, none⟩ (.int .i64 (bv r.lsn))).cell? ⟨wr.heap.size, 1, none⟩ = some (.slice none 0 0) := by
          rw [World.cell?_setCell_other _ _ _ _ (by intro e; injection e; omega)]; exact z1
        have Q := Lib.hid (show RecIn ((x1.setCell ⟨wr.heap.size, 0, none⟩ (.int .i64 (bv r.lsn))).setCell ⟨wr.heap.size, 1, none⟩ (.slice aq r.data.length cq)) wr.heap.size (bv r.lsn) (.slice aq r.data.length cq) from ⟨by
          rw [World.cell?_setCell_other _ _ _ _ (by intro e; injection e; omega)]; exact World.cell?_setCell_same _ _ _ z0, World.cell?_setCell_same _ _ _ zz⟩)
        have OQ := Lib.hid (show OwnB ((x1.setCell ⟨wr.heap.size, 0, none⟩ (.int .i64 (bv r.lsn))).setCell ⟨wr.heap.size, 1, none⟩ (.slice aq r.data.length cq)) wr.heap.size (.slice aq r.data.length cq) r.data from OwnB.base (OwnB.but hO bu hl2) (by omega))
        have CF := Lib.hid (IA.out.on BQ.out)
        clear hO hb hl2 bu zz
        go_wp2_with fail
        refine ⟨⟨⟨_, CX.out⟩, rfl⟩, ?_⟩
        refine wpMix_reads 5 _ (by kernel_rfl) ?_
        simp only [List.take_succ_cons, List.take_zero, List.drop_succ_cons, List.drop_zero]
        repeat (go_big_quiet_step (fail))
        refine wpQuiet_nil ?_
        refine wpMix_act rfl ?_ rfl
        go_wp2_with fail
        refine ⟨⟨⟨_, CF.out⟩, rfl⟩, ?_⟩
        refine wpMix_reads 3 _ (by kernel_rfl) ?_
        simp only [List.take_succ_cons, List.take_zero, List.drop_succ_cons, List.drop_zero]
        repeat (go_big_quiet_step (fail))
        refine wpQuiet_nil ?_
        refine wpMix_nil ?_
        clear hne z0 z1 fz0 fz1 CX CZ CF BZ Z0 Z1 FZ SZ qs0 qs1 qs2
        obtain ⟨wq, hwq⟩ : ∃ wq, ((x1.setCell ⟨wr.heap.size, 0, none⟩ (.int .i64 (bv r.lsn))).setCell ⟨wr.heap.size, 1, none⟩ (.slice aq r.data.length cq)) = wq := ⟨_, rfl⟩
        rw [hwq] at BQ Q OQ
        rw [hwq]
        clear hwq
        have IQ := Lib.hid (IA.out.on BQ.out)
        have q0 := Q.out.c0
        have q1 := Q.out.c1
        have d0 := IQ.out.c0
        have d1 := IQ.out.c1
        have d2 := IQ.out.c2
        have d3 := IQ.out.c3
        have d4 := IQ.out.c4
        have f0 := IQ.out.fr 0
        have f1 := IQ.out.fr 1
        have f2 := IQ.out.fr 2
        have f3 := IQ.out.fr 3
        have f4 := IQ.out.fr 4
        clear c1 cb
        by_cases hE : r.err = 0
        · have hE' : ((r.err : Nat) : Int) = 0 := by omega
          by_cases hN : bv r.lsn = s.next
          · have hgo : goS bs s := ⟨hlt, by rw [HR.out]; exact hE, by rw [HR.out]; exact hN⟩
            obtain ⟨hk2, he16, hnx⟩ := goS_next hgo hk.out
            obtain ⟨fn, tmps, assign, body, hy, hR⟩ := HGo.out i wr wq (.slice aq r.data.length cq) hg.out (by rw [hi.out]; exact hgo) JI.out IA.out.lt ((But.refl W.heap.size wr).of_below BQ.out) (by rw [hi.out, HR.out]; exact OQ.out)
            rw [hi.out, HR.out, hN] at hy
            unfold scVal at hy
            have NX := Lib.hid (show nextS bs s = ⟨s.count + 1, s.end_ + r.n, s.next + 1, r.sum⟩ by unfold nextS; rw [HR.out])
            have hkl : s.end_ + r.n ≤ bs.length := by have := hk2.le; rw [NX.out] at this; exact this
            have hcl : s.count ≤ s.end_ := hk.out.count
            have hlo := hk.out.lo
            have HK2 := Lib.hid hk2
            have HE16 := Lib.hid he16
            have HGN := Lib.hid hgo
            have hn1 : (s.end_ : Int) + (r.n : Int) ≤ 140737488363520 := by omega
            have hn2 : (s.count : Int) + 1 ≤ 140737488363520 := by omega
            have hn3 : s.next + 1 ≤ 9223372036854775807 := by omega
            clear hE hk2 he16 hgo
            gi_wp2
            refine hR.mono ?_
            rintro e W3 (⟨rfl, hJ3, hk3⟩ | ⟨rfl, hx⟩)
            · have I3 := Lib.hid (IQ.out.kept hk3)
              have J3 := Lib.hid hJ3
              clear hJ3 hk3 d0 d1 d2 d3 d4 f0 f1 f2 f3 f4 q0 q1 hy hR
              have d0 := I3.out.c0
              have d1 := I3.out.c1
              have d2 := I3.out.c2
              have d3 := I3.out.c3
              have f0 := I3.out.fr 0
              have f1 := I3.out.fr 1
              have f2 := I3.out.fr 2
              have f3 := I3.out.fr 3
              gi_wp2
              have N3 := it_next I3.out ⟨s.count + 1, s.end_ + r.n, s.next + 1, r.sum⟩
              dsimp only at N3
              simp only [Int.natCast_add, Int.natCast_one] at N3
              obtain ⟨n1, n2⟩ := N3
              go_roundw
              case rel => exact ⟨i + 1, ⟨s.count + 1, s.end_ + r.n, s.next + 1, r.sum⟩, Lib.hid (fun j hj => by
                by_cases e : j = i
                · subst e; rw [hi.out]; exact HGN.out
                · exact hg.out j (by omega)), Lib.hid (by show nextS bs (iterS bs s0 i) = _; rw [hi.out, NX.out]), Lib.hid (NX.out ▸ HK2.out), HJ.out (i + 1) _ _ J3.out n2, n1⟩
              case measure =>
                rw [leftS_at n1, leftS_at IA.out]
                have := HE16.out
                rw [NX.out] at this
                dsimp only at this ⊢
                omega
            · gi_wp2
              refine bodyPost_ret (results_none rfl _ _ _) rfl ?_
              exact ⟨⟨_, rfl⟩, .inl hx⟩
          · have hng : ¬ goS bs s := fun h => hN (by have := h.2.2; rw [HR.out] at this; exact this)
            have hw : whyS bs s = 6 := by unfold whyS; rw [if_pos hlt, HR.out, if_neg (fun h => h hE)]
            have K := Lib.hid (it_why IQ.out 6)
            have BU := Lib.hid ((((But.refl W.heap.size wr).of_below BQ.out)).setB 4 (.int .i64 6))
            obtain ⟨fn, tmps, assign, body, hy, hR⟩ := HEnd.out i wr _ hg.out (by rw [hi.out]; exact hng) JI.out BU.out
            rw [hi.out, hw, show ((6 : Nat) : Int) = 6 from rfl] at hy
            unfold scVal at hy
            have k0 := K.out.c0
            have k1 := K.out.c1
            have k2 := K.out.c2
            have k3 := K.out.c3
            have k4 := K.out.c4
            clear hE
            gi_wp2
            refine hR.mono ?_
            rintro e W3 ⟨⟨t, rfl⟩, hz⟩
            gi_wp2
            refine bodyPost_ret (results_none rfl _ _ _) rfl ?_
            exact ⟨⟨_, rfl⟩, .inr hz⟩
        · have hng : ¬ goS bs s := fun h => hE (by have := h.2.1; rw [HR.out] at this; exact this)
          have hw : whyS bs s = r.err := by unfold whyS; rw [if_pos hlt, HR.out, if_pos hE]
          have hr5' : r.err ≤ 5 ∧ 2 ≤ r.err := by
            have hr5 := rF_err s.seed (bs.drop s.end_)
            have : (rF s.seed (bs.drop s.end_)) = r := HR.out
            rw [this] at hr5; omega
          have K := Lib.hid (it_why IQ.out (r.err : Int))
          have BU := Lib.hid ((((But.refl W.heap.size wr).of_below BQ.out)).setB 4 (.int .i64 (r.err : Int)))
          obtain ⟨fn, tmps, assign, body, hy, hR⟩ := HEnd.out i wr _ hg.out (by rw [hi.out]; exact hng) JI.out BU.out
          rw [hi.out, hw] at hy
          unfold scVal at hy
          have k0 := K.out.c0
          have k1 := K.out.c1
          have k2 := K.out.c2
          have k3 := K.out.c3
          have k4 := K.out.c4
          have HR5 := Lib.hid hr5'
          have hE' : ¬ ((r.err : Nat) : Int) = 0 := by omega
          clear hE hr5'
          gi_wp2
          refine ⟨trivial, (callsIn_wide.2 (scan_why r.err _ HR5.out)).mono ?_⟩
          rintro e W2 ⟨rfl, rfl⟩
          gi_wp2
          refine hR.mono ?_
          rintro e W3 ⟨⟨t, rfl⟩, hz⟩
          gi_wp2
          refine bodyPost_ret (results_none rfl _ _ _) rfl ?_
          exact ⟨⟨_, rfl⟩, .inr hz⟩
    · have hge : (bs.length : Int) ≤ (s.end_ : Int) := by omega
      have hng : ¬ goS bs s := fun h => hlt h.1
      have hw : whyS bs s = 1 := by unfold whyS; rw [if_neg hlt]
      have d4 := IA.out.c4
      have f4 := IA.out.fr 4
      have K := Lib.hid (it_why IA.out 1)
      have BU := Lib.hid ((But.refl W.heap.size wr).setB 4 (.int .i64 1))
      obtain ⟨fn, tmps, assign, body, hy, hR⟩ := HEnd.out i wr _ hg.out (by rw [hi.out]; exact hng) JI.out BU.out
      rw [hi.out, hw, show ((1 : Nat) : Int) = 1 from rfl] at hy
      unfold scVal at hy
      have k0 := K.out.c0
      have k1 := K.out.c1
      have k2 := K.out.c2
      have k3 := K.out.c3
      have k4 := K.out.c4
      gi_wp2
      refine hR.mono ?_
      rintro e W3 ⟨⟨t, rfl⟩, hz⟩
      gi_wp2
      go_end0
      exact ⟨⟨_, rfl⟩, .inr hz⟩
end Go.Proofs.Ytfadpjljokpenaa

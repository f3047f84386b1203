/- The document's reading of catalogs, in the words of the program's; its memory. -/
import Derived.Test.YtmkljmljbbijeaaCatBody
namespace Go.Proofs.Ytmkljmljbbijeaa
open Go.RowKit

/-- An error as the document's number leaves it. -/
def nm (e : Nat) : Nat := if e = 3 then 4 else e
theorem nm_nm (e : Nat) : nm (nm e) = nm e := by unfold nm; split <;> simp_all
theorem nm_zero {e : Nat} : nm e = 0 ↔ e = 0 := by unfold nm; split <;> omega
theorem stp_nm (most : BitVec 64) (r : List (BitVec 8)) (e : Nat) : (stp most (r, nm e)).1 = (stp most (r, e)).1 ∧ (stp most (r, nm e)).2.1 = (stp most (r, e)).2.1 ∧ nm (stp most (r, nm e)).2.2 = nm (stp most (r, e)).2.2 := by
  by_cases h : e = 0
  · subst h; exact ⟨rfl, rfl, rfl⟩
  · rw [stp_bad most (s := (r, e)) h, stp_bad most (s := (r, nm e)) (fun h2 => h (nm_zero.1 h2))]
    exact ⟨rfl, rfl, nm_nm e⟩
theorem fx4_nm (r : List (BitVec 8)) (e : Nat) : (fx4 (r, nm e)).1 = (fx4 (r, e)).1 ∧ (fx4 (r, nm e)).2.1 = (fx4 (r, e)).2.1 ∧ nm (fx4 (r, nm e)).2.2 = nm (fx4 (r, e)).2.2 := by
  by_cases h : e = 0
  · subst h; exact ⟨rfl, rfl, rfl⟩
  · rw [fx4_bad (s := (r, e)) h, fx4_bad (s := (r, nm e)) (fun h2 => h (nm_zero.1 h2))]
    exact ⟨rfl, rfl, nm_nm e⟩
/-- The document's state beside the program's. -/
def Twin (bs : List (BitVec 8)) (k bad : Nat) (s : RS) : Prop := bs.drop k = s.1 ∧ bad = nm s.2
theorem Twin.stp {bs : List (BitVec 8)} {k bad k' b' : Nat} {s : RS} {most v : BitVec 64} (h : Twin bs k bad s) (hv : VarH bs k bad most v k' b') : v = (stp most s).1 ∧ bs.drop k' = (stp most s).2.1 ∧ nm b' = nm (stp most s).2.2 := by
  obtain ⟨h1, h2⟩ := h
  have e := varH_stp hv
  rw [h1, h2] at e
  obtain ⟨a, b, c⟩ := stp_nm most s.1 s.2
  rw [e] at a b c
  exact ⟨a, b, c⟩
theorem Twin.fx4 {bs : List (BitVec 8)} {k bad k' b' : Nat} {s : RS} {v : BitVec 64} (h : Twin bs k bad s) (hv : FixH bs k bad 4 v k' b') : v = (fx4 s).1 ∧ bs.drop k' = (fx4 s).2.1 ∧ nm b' = nm (fx4 s).2.2 := by
  obtain ⟨h1, h2⟩ := h
  have e := fixH_fx hv
  rw [h1, h2] at e
  obtain ⟨a, b, c⟩ := fx4_nm s.1 s.2
  rw [e] at a b c
  exact ⟨a, b, c⟩
/-- The errors there are. -/
def okE (e : Nat) : Prop := e = 0 ∨ e = 2 ∨ e = 3 ∨ e = 4
theorem stp_okE {most : BitVec 64} {s : RS} (h : okE s.2) : okE (stp most s).2.2 := by
  have hb := (rvGo_bounds s.1 0 0#64).2.1
  unfold Go.Proofs.Ytmkljmljbbijeaa.stp
  split
  · split
    · split
      · exact .inl rfl
      · exact .inr (.inr (.inl rfl))
    · unfold okE rv
      rcases hb with h | h | h <;> simp [h]
  · exact h
theorem fx4_okE {s : RS} (h : okE s.2) : okE (fx4 s).2.2 := by
  unfold Go.Proofs.Ytmkljmljbbijeaa.fx4
  split
  · split
    · exact .inl rfl
    · exact .inr (.inl rfl)
  · exact h
theorem segR_okE {s : RS} (h : okE s.2) : okE (segR s).2.2 := stp_okE (stp_okE (fx4_okE (stp_okE (stp_okE h))))
theorem segsR_okE : ∀ (n : Nat) {s : RS}, okE s.2 → okE (segsR n s).2.2
  | 0, _, h => h
  | n + 1, s, h => by rw [segsR]; exact segsR_okE n (segR_okE h)
theorem segR_bad {s : RS} (h : s.2 ≠ 0) : (segR s).2 = s := by
  unfold segR
  simp only [stp_bad topN h, fx4_bad h]
theorem segsR_bad : ∀ (n : Nat) {s : RS}, s.2 ≠ 0 → (segsR n s).2 = s
  | 0, _, _ => rfl
  | n + 1, s, h => by
    rw [segsR]
    show (segsR n (segR s).2).2 = s
    rw [segR_bad h]; exact segsR_bad n h
theorem segsR_add : ∀ (m i : Nat) (s : RS), (segsR (i + m) s).2 = (segsR m (segsR i s).2).2
  | m, 0, s => by rw [Nat.zero_add]; rfl
  | m, i + 1, s => by
    rw [show i + 1 + m = (i + m) + 1 by omega, segsR, segsR]
    exact segsR_add m i (segR s).2
theorem segsR_stuck {i n : Nat} (hi : i ≤ n) {s : RS} (h : (segsR i s).2.2 ≠ 0) : (segsR n s).2 = (segsR i s).2 := by
  rw [show n = i + (n - i) by omega, segsR_add, segsR_bad _ h]

set_option maxRecDepth 100000 in
theorem rq_number (q : Nat) (ao : Option Addr) (cap : Nat) (bs : List (BitVec 8)) (k bad : Nat) (w : World) (hQ : QAt w q ao cap bs k bad) (hm : bs.length ≤ 140737488355328) (v : BitVec 64) (k' b' : Nat) (H : VarH bs k bad topN v k' b') :
    Calls Try.prog 85 #[.pointer (some ⟨q, 0, none⟩)] w fun x w' => x = .returned (.int .i64 (bv v)) ∧ QNow w w' q ao cap bs k' (nm b') := by
  have HQ := Lib.hid hQ
  have HH := Lib.hid H
  have HM := Lib.hid hm
  have hv := i64_of_bv v (top_le (varH_stp H))
  clear hQ H hm
  go_enter Try.func85, Try.ntmps85
  go_wp2_with fail
  refine (q_varint q ao cap bs k bad topN w HQ.out HM.out v k' b' HH.out).mono ?_
  rintro e w' ⟨rfl, hN⟩
  have HN := Lib.hid hN
  have c2 := hN.at'.at2
  have f2 := hN.at'.free2
  clear hN
  by_cases h3 : b' = 3
  · have t3 : ((b' : Int) == 3) = true := by simp [h3]
    have E : Hid (nm b' = 4) := Lib.hid (by rw [h3]; rfl)
    clear h3
    go_wp2_with fail
    go_ret
    rw [E.out]
    have hs := q_stopped HN.out.at' 4 4 rfl (Below.refl _ _)
    exact ⟨rfl, hs.at', HN.out.but.trans hs.but⟩
  · have t3 : ((b' : Int) == 3) = false := beq_false_of_ne (by omega)
    have E : Hid (nm b' = b') := Lib.hid (by unfold nm; rw [if_neg h3])
    clear h3
    go_wp2_with fail
    go_ret
    rw [E.out]
    exact ⟨rfl, HN.out⟩

theorem QAt.move {W W' : World} {q cap k bad : Nat} {ao : Option Addr} {bs : List (BitVec 8)} (h : QAt W q ao cap bs k bad) (hq : W'.heap[q]? = W.heap[q]?) (hb : BytesAt W' ao bs) : QAt W' q ao cap bs k bad :=
  ⟨(World.cell?_of_block (a := ⟨q, 0, none⟩) hq).trans h.at0, (World.cell?_of_block (a := ⟨q, 1, none⟩) hq).trans h.at1, (World.cell?_of_block (a := ⟨q, 2, none⟩) hq).trans h.at2, (World.frozen?_of_block (a := ⟨q, 1, none⟩) hq).trans h.free1, (World.frozen?_of_block (a := ⟨q, 2, none⟩) hq).trans h.free2, h.le, hb, h.nil, h.hcap, h.mcap, h.off⟩
/-- The document's reading: its memory. -/
structure QI (w1 : World) (q C : Nat) (ao : Option Addr) (cap : Nat) (bs : List (BitVec 8)) (k bad : Nat) (g f : Int) (lv : Value) (l : List SegV) (W : World) : Prop where
  rd : QAt W q ao cap bs k bad
  src : BytesAt w1 ao bs
  cat : W.heap[C]? = some (.cells #[.int .i64 g, .int .i64 f, lv] 29 (0, 0))
  own : OwnS W (C + 1) lv l
  low : Below w1.heap.size w1 W
  lb : w1.heap.size ≤ q
  qC : q < C
section
variable {w1 W W' : World} {q C cap k bad : Nat} {ao : Option Addr} {bs : List (BitVec 8)} {g f : Int} {lv : Value} {l : List SegV}
theorem QI.now (h : QI w1 q C ao cap bs k bad g f lv l W) {k' bad' : Nat} (hn : QNow W W' q ao cap bs k' bad') : QI w1 q C ao cap bs k' bad' g f lv l W' :=
  ⟨hn.at', h.src, (hn.but.block C (heap_lt h.cat) (by have := h.qC; omega)).trans h.cat, rows_congr h.own fun z hz => hn.but.block z (let ⟨_, _, hh⟩ := rows_blk h.own hz; heap_lt hh) (by have := (rows_blk h.own hz).1; have := h.qC; omega), h.low.trans ⟨hn.but.os, hn.but.tape, hn.but.output, hn.but.size, fun z hz => hn.but.block z (by have := h.low.size; omega) (by have := h.lb; omega)⟩, h.lb, h.qC⟩
theorem QI.on (h : QI w1 q C ao cap bs k bad g f lv l W) (hb : Below W.heap.size W W') : QI w1 q C ao cap bs k bad g f lv l W' :=
  ⟨h.rd.on hb, h.src, (hb.block C (heap_lt h.cat)).trans h.cat, h.own.keep hb, h.low.trans (hb.mono h.low.size), h.lb, h.qC⟩
theorem QI.set (h : QI w1 q C ao cap bs k bad g f lv l W) {z o : Nat} (hC : C < z) (hl : lv.ownBlock ≠ some z) (t : Value) : QI w1 q C ao cap bs k bad g f lv l (W.setCell ⟨z, o, none⟩ t) := by
  have hne : ∀ y, y ≠ z → (W.setCell ⟨z, o, none⟩ t).heap[y]? = W.heap[y]? := fun y hy => Below.heap_setCell _ _ _ _ (by simpa using hy)
  have hq := h.qC
  have hlb := h.lb
  have hlow : Below w1.heap.size w1 (W.setCell ⟨z, o, none⟩ t) := h.low.setCell (p := ⟨z, o, none⟩) (by show _ ≤ z; omega) t
  exact ⟨h.rd.move (hne q (by omega)) (h.src.below hlow), h.src, (hne C (by omega)).trans h.cat, rows_congr h.own fun y hy => hne y (fun e => hl (by rw [hy, e])), hlow, h.lb, h.qC⟩
theorem QI.gen (h : QI w1 q C ao cap bs k bad g f lv l W) (g' : Int) : QI w1 q C ao cap bs k bad g' f lv l (W.setCell ⟨C, 0, none⟩ (.int .i64 g')) := by
  have hne : ∀ y, y ≠ C → (W.setCell ⟨C, 0, none⟩ (.int .i64 g')).heap[y]? = W.heap[y]? := fun y hy => Below.heap_setCell _ _ _ _ (by simpa using hy)
  have hq := h.qC
  have hlb := h.lb
  have hlow : Below w1.heap.size w1 (W.setCell ⟨C, 0, none⟩ (.int .i64 g')) := h.low.setCell (p := ⟨C, 0, none⟩) (by show _ ≤ C; omega) _
  exact ⟨h.rd.move (hne q (by omega)) (h.src.below hlow), h.src, Go.Joins.block_setCell h.cat _ (i := 0), rows_congr h.own fun y hy => hne y (by have := (rows_blk h.own hy).1; omega), hlow, h.lb, h.qC⟩
theorem QI.first (h : QI w1 q C ao cap bs k bad g f lv l W) (f' : Int) : QI w1 q C ao cap bs k bad g f' lv l (W.setCell ⟨C, 1, none⟩ (.int .i64 f')) := by
  have hne : ∀ y, y ≠ C → (W.setCell ⟨C, 1, none⟩ (.int .i64 f')).heap[y]? = W.heap[y]? := fun y hy => Below.heap_setCell _ _ _ _ (by simpa using hy)
  have hq := h.qC
  have hlb := h.lb
  have hlow : Below w1.heap.size w1 (W.setCell ⟨C, 1, none⟩ (.int .i64 f')) := h.low.setCell (p := ⟨C, 1, none⟩) (by show _ ≤ C; omega) _
  exact ⟨h.rd.move (hne q (by omega)) (h.src.below hlow), h.src, Go.Joins.block_setCell h.cat _ (i := 1), rows_congr h.own fun y hy => hne y (by have := (rows_blk h.own hy).1; omega), hlow, h.lb, h.qC⟩
theorem QI.push (h : QI w1 q C ao cap bs k bad g f lv l W) {l' : List SegV} {lv' : Value} (ho : OwnS W' (C + 1) lv' l') (hg : W.grownBy W' lv.ownBlock) : QI w1 q C ao cap bs k bad g f lv' l' (W'.setCell ⟨C, 2, none⟩ lv') := by
  have hlv : ∀ y, y ≤ C → lv.ownBlock ≠ some y := fun y hy e => by have := (rows_blk h.own e).1; omega
  have hq := h.qC
  have hlb := h.lb
  have hC : W'.heap[C]? = _ := (hg.block C (heap_lt h.cat) (fun e => hlv C (Nat.le_refl _) e.symm)).trans h.cat
  have hne : ∀ z, z ≠ C → (W'.setCell ⟨C, 2, none⟩ lv').heap[z]? = W'.heap[z]? := fun z hz => Below.heap_setCell _ _ _ _ (by simpa using hz)
  have hlow : Below w1.heap.size w1 (W'.setCell ⟨C, 2, none⟩ lv') := (h.low.grown hg h.low.size (fun z hz => by have := (rows_blk h.own hz).1; omega)).setCell (p := ⟨C, 2, none⟩) (by show _ ≤ C; omega) lv'
  exact ⟨h.rd.move ((hne q (by omega)).trans (hg.block q (h.rd.lt) (fun e => hlv q (by omega) e.symm))) (h.src.below hlow), h.src, Go.Joins.block_setCell hC lv' (i := 2), rows_congr ho fun z hz => hne z (by have := (rows_blk ho hz).1; omega), hlow, h.lb, h.qC⟩
theorem QRow.but {z : Nat} {x y u v t : Value} (h : QRow W z x y u v t) (hb : But q W W') (hz : z ≠ q) : QRow W' z x y u v t := ⟨(hb.block z (heap_lt h.row) hz).trans h.row⟩
end
end Go.Proofs.Ytmkljmljbbijeaa

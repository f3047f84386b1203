/- Lists of bytes that are kept: each in a block of its own. -/
import Derived.Test.YtmkljmljbbijeaaRefReader
import Derived.Deep.AppendLies
import Derived.Test.YtmkljmljbbijeaaMixed
namespace Go.Proofs.Ytmkljmljbbijeaa
open Go.RowKit

theorem rows_congr {w w' : World} {base n size : Nat} {e : TypeId} {v : Value} {xs : List Value} (h : w.ownsRow base e size v n xs) (hb : ∀ g, v.ownBlock = some g → w'.heap[g]? = w.heap[g]?) : w'.ownsRow base e size v n xs := by
  refine ⟨h.1, ?_⟩
  rcases h.2 with h0 | ⟨g, cap, cur, hv, hg, hh, r⟩
  · exact .inl h0
  · exact .inr ⟨g, cap, cur, hv, hg, (hb g (by rw [hv]; rfl)).trans hh, r⟩
/-- The block that a slice of the call's own lies in. -/
theorem rows_blk {w : World} {base n size g : Nat} {e : TypeId} {v : Value} {xs : List Value} (h : w.ownsRow base e size v n xs) (hg : v.ownBlock = some g) : base ≤ g ∧ ∃ cur, w.heap[g]? = some (.cells cur e (0, 0)) := by
  rcases h.2 with ⟨h0, _⟩ | ⟨g', cap, cur, hv, hb, hh, r⟩
  · rw [h0] at hg; cases hg
  · rw [hv] at hg
    have : g' = g := by simpa [Value.ownBlock] using hg
    subst this
    exact ⟨hb, cur, hh⟩
theorem heap_lt {w : World} {g : Nat} {o : Obj} (h : w.heap[g]? = some o) : g < w.heap.size := (Array.getElem?_eq_some_iff.1 h).1

/-- What is kept: the box of the list and the size, the list, the lists of bytes. -/
structure Kept (w : World) (kb lo : Nat) (lv : Value) (z : Nat) (xs : List Value) : Prop where
  box : w.heap[kb]? = some (.cells #[lv, .int .i64 z] 93 (0, 0))
  low : lo ≤ kb
  list : w.ownsRow lo 31 1 lv xs.length xs
  len : xs.length ≤ z
  room : z ≤ 4194304
  elem : ∀ x ∈ xs, (∃ bs, OwnB w lo x bs) ∧ x.ownBlock ≠ none
  apart : xs.Pairwise fun x y => x.ownBlock ≠ y.ownBlock

section
variable {w w' : World} {kb lo z : Nat} {lv : Value} {xs : List Value}
theorem Kept.move (h : Kept w kb lo lv z xs) (hk : w'.heap[kb]? = w.heap[kb]?) (hl : ∀ g, lv.ownBlock = some g → w'.heap[g]? = w.heap[g]?) (he : ∀ x ∈ xs, ∀ g, x.ownBlock = some g → w'.heap[g]? = w.heap[g]?) : Kept w' kb lo lv z xs :=
  ⟨hk.trans h.box, h.low, rows_congr h.list hl, h.len, h.room, fun x hx => ⟨let ⟨bs, hb⟩ := (h.elem x hx).1; ⟨bs, rows_congr hb (he x hx)⟩, (h.elem x hx).2⟩, h.apart⟩
theorem Kept.keep (h : Kept w kb lo lv z xs) (hb : Below w.heap.size w w') : Kept w' kb lo lv z xs :=
  h.move (hb.block kb (heap_lt h.box)) (fun g hg => let ⟨_, _, hc⟩ := rows_blk h.list hg; hb.block g (heap_lt hc)) (fun x hx g hg => let ⟨⟨_, ho⟩, _⟩ := h.elem x hx; let ⟨_, _, hc⟩ := rows_blk ho hg; hb.block g (heap_lt hc))
theorem Kept.but {c : Nat} (h : Kept w kb lo lv z xs) (hu : But c w w') (hc : c < lo) : Kept w' kb lo lv z xs :=
  h.move (hu.block kb (heap_lt h.box) (by have := h.low; omega)) (fun g hg => let ⟨hl, _, hh⟩ := rows_blk h.list hg; hu.block g (heap_lt hh) (by omega)) (fun x hx g hg => let ⟨⟨_, ho⟩, _⟩ := h.elem x hx; let ⟨hl, _, hh⟩ := rows_blk ho hg; hu.block g (heap_lt hh) (by omega))
/-- The list's block is not the box, nor a list's of bytes. -/
theorem Kept.list_ne (h : Kept w kb lo lv z xs) {g : Nat} (hg : lv.ownBlock = some g) : g ≠ kb ∧ ∀ (x : Value) bs, OwnB w lo x bs → x.ownBlock ≠ some g := by
  obtain ⟨_, cur, hc⟩ := rows_blk h.list hg
  refine ⟨fun e => ?_, fun x bs ho e => ?_⟩
  · subst e
    have := h.box.symm.trans hc
    injection this with this; injection this with _ this; exact absurd this (by decide)
  · obtain ⟨_, cur', hc'⟩ := rows_blk ho e
    have := hc'.symm.trans hc
    injection this with this; injection this with _ this; exact absurd this (by decide)
theorem Kept.box_ne (h : Kept w kb lo lv z xs) {x : Value} {bs : List (BitVec 8)} (ho : OwnB w lo x bs) : x.ownBlock ≠ some kb := fun e => by
  obtain ⟨_, cur', hc'⟩ := rows_blk ho e
  have := hc'.symm.trans h.box
  injection this with this; injection this with _ this; exact absurd this (by decide)
/-- The size is turned. -/
theorem Kept.size (h : Kept w kb lo lv z xs) (z' : Nat) (hz : z ≤ z') (hr : z' ≤ 4194304) : Kept (w.setCell ⟨kb, 1, none⟩ (.int .i64 z')) kb lo lv z' xs := by
  refine ⟨heap_setCell_same w kb 1 _ _ _ h.box, h.low, rows_congr h.list fun g hg => heap_setCell_other w _ g _ (h.list_ne hg).1, by have := h.len; omega, hr, fun x hx => ⟨?_, (h.elem x hx).2⟩, h.apart⟩
  obtain ⟨⟨bs, hb⟩, _⟩ := h.elem x hx
  exact ⟨bs, rows_congr hb fun g hg => heap_setCell_other w _ g _ (fun e => h.box_ne hb (by rw [hg]; exact congrArg some e))⟩
/-- One more. -/
theorem Kept.push (h : Kept w kb lo lv z xs) {x : Value} {bs : List (BitVec 8)} (hx : OwnB w lo x bs) (hn : x.ownBlock ≠ none) (hnew : ∀ y ∈ xs, y.ownBlock ≠ x.ownBlock) (hz : xs.length + 1 ≤ z) {g cap : Nat}
    (ho : w'.ownsRow lo 31 1 (.slice (some ⟨g, 0, none⟩) (xs.length + 1) cap) (xs.length + 1) (xs ++ [x])) (hg : w.grownBy w' lv.ownBlock) (hl : lv.ownBlock = some g ∨ g = w.heap.size) :
    Kept (w'.setCell ⟨kb, 0, none⟩ (.slice (some ⟨g, 0, none⟩) (xs.length + 1) cap)) kb lo (.slice (some ⟨g, 0, none⟩) (xs.length + 1) cap) z (xs ++ [x]) := by
  have hkl : some kb ≠ lv.ownBlock := fun e => (h.list_ne e.symm).1 rfl
  have hbox : w'.heap[kb]? = some (.cells #[lv, .int .i64 z] 93 (0, 0)) := (hg.block kb (heap_lt h.box) hkl).trans h.box
  have hgk : g ≠ kb := by
    rcases hl with hl | hl
    · exact (h.list_ne hl).1
    · have := heap_lt h.box; omega
  have key : ∀ y b, OwnB w lo y b → OwnB (w'.setCell ⟨kb, 0, none⟩ (.slice (some ⟨g, 0, none⟩) (xs.length + 1) cap)) lo y b := fun y b hy => rows_congr hy fun p hp => by
    obtain ⟨_, cur, hc⟩ := rows_blk hy hp
    rw [heap_setCell_other w' _ p _ (fun e => h.box_ne hy (by rw [hp]; exact congrArg some e))]
    exact hg.block p (heap_lt hc) (fun e => (h.list_ne e.symm).2 y b hy hp)
  refine ⟨heap_setCell_same w' kb 0 _ _ _ hbox, h.low, ?_, by simpa using hz, h.room, fun y hy => ?_, ?_⟩
  · rw [List.length_append]
    exact rows_congr ho fun p hp => heap_setCell_other w' _ p _ (by simp only [Value.ownBlock, Option.some.injEq] at hp; exact hp ▸ hgk)
  · rcases List.mem_append.1 hy with hy | hy
    · obtain ⟨⟨b, hb⟩, h2⟩ := h.elem y hy
      exact ⟨⟨b, key y b hb⟩, h2⟩
    · obtain rfl := List.mem_singleton.1 hy
      exact ⟨⟨bs, key y bs hx⟩, hn⟩
  · exact List.pairwise_append.2 ⟨h.apart, by simp, fun y hy x' hx' => by obtain rfl := List.mem_singleton.1 hx'; exact hnew y hy⟩
/-- What a push leaves of the blocks that are not the box or the list's. -/
theorem push_block {v' : Value} {p : Nat} (hg : w.grownBy w' lv.ownBlock) (hp : p < w.heap.size) (hk : p ≠ kb) (hl : lv.ownBlock ≠ some p) : (w'.setCell ⟨kb, 0, none⟩ v').heap[p]? = w.heap[p]? := by
  rw [heap_setCell_other w' _ p _ hk]
  exact hg.block p hp (fun e => hl e.symm)
end

set_option maxRecDepth 100000 in
theorem room_to (n all x : Int) (w : World) (h0 : 0 ≤ n) (hn : n ≤ 9223372036854770807) (hx : x = min all (n + 5000)) :
    Calls Try.prog 81 #[.int .i64 n, .int .i64 all] w fun e w' => e = .returned (.int .i64 x) ∧ w = w' := by
  have HX := Lib.hid hx
  clear hx
  go_enter Try.func81, Try.ntmps81
  go_wp2_with fail
  all_goals go_ret
  · have e : x = n + 5000 := by have := HX.out; omega
    clear HX
    subst e
    exact ⟨rfl, rfl⟩
  · have e : x = all := by have := HX.out; omega
    clear HX
    subst e
    exact ⟨rfl, rfl⟩

theorem same_quiet {f : FuncId} {args : Array Value} {w : World} {d : Nat} {os : Array Obj} {v : Value}
    (h : Calls Try.prog f args (Sort.grow (redrawn w d) os) fun e w' => e = .returned v ∧ Sort.grow (redrawn w d) os = w') : Calls Try.prog f args (Sort.grow (redrawn w d) os) fun e w'' => e = .returned v ∧ ∃ p : Regrown, w'' = Sort.grow (redrawn w p.d) p.os :=
  Calls.regrown_of (h.mono fun _ _ ⟨he, hw⟩ => ⟨he, hw ▸ Below.refl _ _⟩)
theorem Kept.cell0 {w : World} {kb lo z : Nat} {lv : Value} {xs : List Value} (h : Kept w kb lo lv z xs) : w.cell? ⟨kb, 0, none⟩ = some lv := cell_of_row _ _ 0 _ _ _ h.box
theorem Kept.cell1 {w : World} {kb lo z : Nat} {lv : Value} {xs : List Value} (h : Kept w kb lo lv z xs) : w.cell? ⟨kb, 1, none⟩ = some (.int .i64 z) := cell_of_row _ _ 1 _ _ _ h.box
theorem Kept.free {w : World} {kb lo z : Nat} {lv : Value} {xs : List Value} (h : Kept w kb lo lv z xs) (j : Nat) : w.frozen? ⟨kb, j, none⟩ = false := frozen_of_row _ _ j _ _ h.box
/-- None is longer than what is kept together. -/
def Short (xs : List Value) : Prop := ∀ x ∈ xs, ∀ (a : Option Addr) (n c : Nat), x = .slice a n c → n ≤ 4194304
/-- What a turn of Keep needs of the lists that are to come. -/
structure Come (w : World) (lo la : Nat) (xs vs : List Value) (t : Nat) : Prop where
  cell : ∀ (j : Nat) (v : Value), t ≤ j → vs[j]? = some v → w.cell? ⟨la, j, none⟩ = some v
  own : ∀ (j : Nat) (v : Value), t ≤ j → vs[j]? = some v → ∃ bs, OwnB w lo v bs ∧ bs.length ≤ 281474976710656
  new : ∀ (j : Nat) (v : Value), t ≤ j → vs[j]? = some v → ∀ g, v.ownBlock = some g → ∀ x ∈ xs, x.ownBlock ≠ some g
  apart : ∀ (i j : Nat) (x y : Value), i < j → vs[i]? = some x → vs[j]? = some y → x.ownBlock = none ∨ x.ownBlock ≠ y.ownBlock
theorem Come.keep {w w' : World} {lo la t : Nat} {xs vs : List Value} (h : Come w lo la xs vs t) (hb : Below w.heap.size w w') : Come w' lo la xs vs t :=
  ⟨fun j v hj hv => cell_keep hb (h.cell j v hj hv), fun j v hj hv => let ⟨bs, ho, hl⟩ := h.own j v hj hv; ⟨bs, ho.keep hb, hl⟩, h.new, h.apart⟩
theorem Come.next {w : World} {lo la t : Nat} {xs vs : List Value} (h : Come w lo la xs vs t) : Come w lo la xs vs (t + 1) :=
  ⟨fun j v hj => h.cell j v (by omega), fun j v hj => h.own j v (by omega), fun j v hj => h.new j v (by omega), h.apart⟩

theorem Come.move {w w' : World} {lo la t : Nat} {xs vs : List Value} (h : Come w lo la xs vs t) (hla : w'.heap[la]? = w.heap[la]?) (he : ∀ (v : Value) (bs : List (BitVec 8)), OwnB w lo v bs → OwnB w' lo v bs) : Come w' lo la xs vs t :=
  ⟨fun j v hj hv => (World.cell?_of_block (a := ⟨la, j, none⟩) hla).trans (h.cell j v hj hv), fun j v hj hv => let ⟨bs, ho, hl⟩ := h.own j v hj hv; ⟨bs, he v bs ho, hl⟩, h.new, h.apart⟩
theorem Kept.own_set {w : World} {kb lo z j : Nat} {lv u : Value} {xs : List Value} (h : Kept w kb lo lv z xs) {v : Value} {bs : List (BitVec 8)} (ho : OwnB w lo v bs) : OwnB (w.setCell ⟨kb, j, none⟩ u) lo v bs :=
  rows_congr ho fun g hg => heap_setCell_other w _ g _ (fun e => h.box_ne ho (by rw [hg]; exact congrArg some e))
theorem Kept.own_push {w w' : World} {kb lo z : Nat} {lv u : Value} {xs : List Value} (h : Kept w kb lo lv z xs) (hg : w.grownBy w' lv.ownBlock) {v : Value} {bs : List (BitVec 8)} (ho : OwnB w lo v bs) : OwnB (w'.setCell ⟨kb, 0, none⟩ u) lo v bs :=
  rows_congr ho fun p hp => by
    obtain ⟨_, cur, hc⟩ := rows_blk ho hp
    exact push_block hg (heap_lt hc) (fun e => h.box_ne ho (by rw [hp, e])) (fun e => (h.list_ne e).2 v bs ho hp)
theorem news_one (w : World) (x : Value) (t : TypeId) (fr : Nat × Nat) : ∀ (j : Nat) (u : Value), [x][j]? = some u → (w.alloc (.cells #[x] t fr)).cell? ((⟨w.heap.size, 0, none⟩ : Addr).add j) = some u := by
  intro j u hu
  cases j with
  | zero =>
    have : x = u := by simpa using hu
    subst this
    exact cell_of_row _ _ 0 _ _ _ (heap_alloc_new w _)
  | succ j => simp at hu
theorem Try.infoSl : (Try.prog.info? 31).map (fun i => (i.zero, i.size, i.bytes)) = some (some (.slice none 0 0), 1, 24) := by kernel_rfl

set_option maxHeartbeats 2000000 in
set_option maxRecDepth 100000 in
theorem keep (kb lo la c : Nat) (lv : Value) (z : Nat) (xs vs : List Value) (w : World) (hK : Kept w kb lo lv z xs) (hC : Come w lo la xs vs 0) (hk : kb ≠ la) (hl : lv.ownBlock ≠ some la) (hn : vs.length ≤ 1000) (hlo : lo ≤ w.heap.size) (hS : Short xs) :
    Calls Try.prog 52 #[.pointer (some ⟨kb, 0, none⟩), .slice (some ⟨la, 0, none⟩) vs.length c] w fun e w' => e = .returned (.tuple #[]) ∧ ∃ lv' z' xs', Kept w' kb lo lv' z' xs' ∧ Below lo w w' ∧ (∀ (v : Value) (bs : List (BitVec 8)), OwnB w lo v bs → OwnB w' lo v bs) ∧ (∀ p, p < w.heap.size → p ≠ kb → lv.ownBlock ≠ some p → w'.heap[p]? = w.heap[p]?) ∧ Short xs' := by
  have HS := Lib.hid hS
  clear hS
  have HK := Lib.hid hK
  have HC := Lib.hid hC
  have HL := Lib.hid hl
  have HKL := Lib.hid hk
  clear hK hC hl hk
  go_enter Try.func52, Try.ntmps52
  go_wp2_with fail
  go_loopw [4, 5] (fun i n wr => ∃ (t : Nat) (lv' : Value) (z' : Nat) (xs' : List Value), t ≤ vs.length ∧ i = .int .i64 t ∧ Kept wr kb lo lv' z' xs' ∧ Hid (Come wr lo la xs' vs t) ∧ Hid (lv'.ownBlock ≠ some la) ∧ Below lo w wr ∧ Hid (∀ (v : Value) (bs : List (BitVec 8)), OwnB w lo v bs → OwnB wr lo v bs) ∧ Hid (∀ p, p < w.heap.size → p ≠ kb → lv.ownBlock ≠ some p → wr.heap[p]? = w.heap[p]? ∧ lv'.ownBlock ≠ some p) ∧ Hid (Short xs')) (fun i _ _ => vs.length - (intOf i).toNat)
  case atStart => exact ⟨0, lv, z, xs, by omega, rfl, HK.out, HC, HL, Below.refl _ _, Lib.hid (fun _ _ h => h), Lib.hid (fun _ _ _ h => ⟨rfl, h⟩), HS⟩
  case round =>
    obtain ⟨t, lv', z', xs', ht, rfl, hK, hC, hL, hB, hP, hF, hS⟩ := hrel
    have HK1 := Lib.hid hK
    have HB1 := Lib.hid hB
    clear hK hB
    by_cases hlt : t < vs.length
    · obtain ⟨v, hv⟩ : ∃ v, vs[t]? = some v := ⟨vs[t], by simp [hlt]⟩
      have HV := Lib.hid hv
      have hcell := hC.out.cell t v (Nat.le_refl _) hv
      obtain ⟨bs, ho, hbl⟩ := hC.out.own t v (Nat.le_refl _) hv
      have HO := Lib.hid ho
      clear hv
      rcases ho.2 with ⟨rfl, h0⟩ | ⟨g, cap, cur, rfl, hg, hh, hnc, hcm, hcs, -⟩
      · clear ho h0
        have k1 := cell_regrown hcell
        go_wp2_with fail
        refine wp_region_quiet_below (by kernel_rfl) (by kernel_rfl) ?_
        repeat (go_big_quiet_step (first | (go_at_call 81; exact same_quiet (room_to _ _ 0 _ (by omega) (by omega) (by omega)))))
        refine wpQuiet_nil ?_
        intro w2 hw2
        obtain ⟨⟨nq, osq⟩, hw2'⟩ := hw2
        have hb2 : Below wr.heap.size wr w2 := by rw [hw2']; exact below_regrown _ _ _
        have K2 := Lib.hid (HK1.out.keep hb2)
        have C2 := Lib.hid (hC.out.keep hb2)
        have B2 := Lib.hid (HB1.out.trans (hb2.mono (Nat.le_trans hlo HB1.out.size)))
        have P2 : Hid (∀ (v : Value) (bs : List (BitVec 8)), OwnB w lo v bs → OwnB w2 lo v bs) := Lib.hid fun v bs h => (hP.out v bs h).keep hb2
        have F2 : Hid (∀ p, p < w.heap.size → p ≠ kb → lv.ownBlock ≠ some p → w2.heap[p]? = w.heap[p]? ∧ lv'.ownBlock ≠ some p) := Lib.hid fun p h1 h2 h3 => ⟨(hb2.block p (Nat.lt_of_lt_of_le h1 HB1.out.size)).trans (hF.out p h1 h2 h3).1, (hF.out p h1 h2 h3).2⟩
        clear hw2' k1
        go_wp2_with fail
        go_roundw
        case rel => exact ⟨t + 1, lv', z', xs', by omega, by go_num, K2.out, C2.out.next, hL, B2.out, P2, F2, hS⟩
        case measure => simp [intOf]; omega
      · obtain ⟨r, hr⟩ : ∃ r : Nat, r = min cap (bs.length + 5000) := ⟨_, rfl⟩
        have hm63 : cap ≤ 9223372036854775807 := hcm
        have hmr : Hid ((r : Int) = min (cap : Int) ((bs.length : Int) + 5000)) := Lib.hid (by omega)
        have hzr := HK1.out.room
        have k1 := cell_regrown hcell
        have hrr : (r : Int) ≤ 281474976715656 := by omega
        clear ho hh hcs hr
        go_wp2_with fail
        refine wp_region_quiet_below (by kernel_rfl) (by kernel_rfl) ?_
        repeat (go_big_quiet_step (first | (go_at_call 81; exact same_quiet (room_to _ _ (r : Int) _ (by omega) (by omega) hmr.out))))
        refine wpQuiet_nil ?_
        intro w2 hw2
        obtain ⟨⟨nq, osq⟩, hw2'⟩ := hw2
        have hb2 : Below wr.heap.size wr w2 := by rw [hw2']; exact below_regrown _ _ _
        have K2 := Lib.hid (HK1.out.keep hb2)
        have C2 := Lib.hid (hC.out.keep hb2)
        have B2 := Lib.hid (HB1.out.trans (hb2.mono (Nat.le_trans hlo HB1.out.size)))
        have P2 : Hid (∀ (v : Value) (bs : List (BitVec 8)), OwnB w lo v bs → OwnB w2 lo v bs) := Lib.hid fun v bs h => (hP.out v bs h).keep hb2
        have F2 : Hid (∀ p, p < w.heap.size → p ≠ kb → lv.ownBlock ≠ some p → w2.heap[p]? = w.heap[p]? ∧ lv'.ownBlock ≠ some p) := Lib.hid fun p h1 h2 h3 => ⟨(hb2.block p (Nat.lt_of_lt_of_le h1 HB1.out.size)).trans (hF.out p h1 h2 h3).1, (hF.out p h1 h2 h3).2⟩
        clear hw2' k1
        have hc1 := K2.out.cell1
        have skip : ((r : Int) = 0 ∨ ¬ (r : Int) = 0 ∧ (4194304 : Int) < (z' : Int) + (r : Int)) ∨ (1 ≤ r ∧ ¬ (r : Int) = 0 ∧ (z' : Int) + (r : Int) ≤ 4194304) := by omega
        rcases skip with (h | ⟨h, h'⟩) | ⟨h1, h, h'⟩
        · go_wp2_with fail
          go_roundw
          case rel => exact ⟨t + 1, lv', z', xs', by omega, by go_num, K2.out, C2.out.next, hL, B2.out, P2, F2, hS⟩
          case measure => simp [intOf]; omega
        · go_wp2_with fail
          go_roundw
          case rel => exact ⟨t + 1, lv', z', xs', by omega, by go_num, K2.out, C2.out.next, hL, B2.out, P2, F2, hS⟩
          case measure => simp [intOf]; omega
        · have hf1 := K2.out.free 1
          have hq : ((r : Int) == 0) = false := by simp; omega
          have K3 := Lib.hid (show Kept (w2.setCell ⟨kb, 1, none⟩ (.int .i64 ((z' : Int) + (r : Int)))) kb lo lv' (z' + r) xs' by rw [← Int.natCast_add]; exact K2.out.size (z' + r) (by omega) (by omega))
          have B3 := Lib.hid (show Below lo w (w2.setCell ⟨kb, 1, none⟩ (.int .i64 ((z' : Int) + (r : Int)))) from B2.out.setCell K2.out.low _)
          have C3 := Lib.hid (show Come (w2.setCell ⟨kb, 1, none⟩ (.int .i64 ((z' : Int) + (r : Int)))) lo la xs' vs t from C2.out.move (heap_setCell_other _ _ _ _ (fun e => HKL.out e.symm)) (fun v bs ho => K2.out.own_set ho))
          have O3 := Lib.hid (show OwnB (w2.setCell ⟨kb, 1, none⟩ (.int .i64 ((z' : Int) + (r : Int)))) lo (.slice (some ⟨g, 0, none⟩) bs.length cap) bs from K2.out.own_set (HO.out.keep hb2))
          have P3 := Lib.hid (show ∀ (v : Value) (bs : List (BitVec 8)), OwnB w lo v bs → OwnB (w2.setCell ⟨kb, 1, none⟩ (.int .i64 ((z' : Int) + (r : Int)))) lo v bs from fun v bs h => K2.out.own_set (P2.out v bs h))
          have F3 := Lib.hid (show (∀ p, p < w.heap.size → p ≠ kb → lv.ownBlock ≠ some p → (w2.setCell ⟨kb, 1, none⟩ (.int .i64 ((z' : Int) + (r : Int)))).heap[p]? = w.heap[p]? ∧ lv'.ownBlock ≠ some p) from fun p h1 h2 h3 => ⟨(heap_setCell_other _ _ _ _ h2).trans (F2.out p h1 h2 h3).1, (F2.out p h1 h2 h3).2⟩)
          have hlen := HK1.out.len
          have H1 := Lib.hid h1
          have hcl := hc1
          clear h1
          go_wp2_with fail
          generalize w2.setCell ⟨kb, 1, none⟩ (.int .i64 ((z' : Int) + (r : Int))) = w3 at K3 B3 C3 O3 P3 F3 ⊢
          clear hcl hc1 hf1 K2 C2 B2 hcell HO hb2
          obtain ⟨i0, hi, hz0, hz1, hz2⟩ := info_parts Try.infoSl
          have HI := Lib.hid hi
          have HZ0 := Lib.hid hz0
          have HZ1 := Lib.hid hz1
          have HZ2 := Lib.hid hz2
          clear hi hz0 hz1 hz2
          have QL := Lib.hid (C3.out.cell t _ (Nat.le_refl _) HV.out)
          have q0 : ∀ p : In (fun w' => w'.cell? ⟨kb, 0, none⟩ = some lv' ∧ w'.cell? ⟨la, t, none⟩ = some (.slice (some ⟨g, 0, none⟩) bs.length cap)), p.w.cell? ⟨kb, 0, none⟩ = some lv' := fun p => p.h.1
          have ql : ∀ p : In (fun w' => w'.cell? ⟨kb, 0, none⟩ = some lv' ∧ w'.cell? ⟨la, t, none⟩ = some (.slice (some ⟨g, 0, none⟩) bs.length cap)), p.w.cell? ⟨la, t, none⟩ = some (.slice (some ⟨g, 0, none⟩) bs.length cap) := fun p => p.h.2
          go_wp2_with fail
          refine wp_region_mixed_tail [0, 1, 2, 3, 4, 5, 6, 7, 8, 9, 10, 11, 12] 13 (fun w' => w'.cell? ⟨kb, 0, none⟩ = some lv' ∧ w'.cell? ⟨la, t, none⟩ = some (.slice (some ⟨g, 0, none⟩) bs.length cap)) (by kernel_rfl) (by kernel_rfl) (by intro c a d v w h; cases d <;> exact h) ⟨K3.out.cell0, QL.out⟩ ?_
          intro hne
          simp only [pick, List.map_cons, List.map_nil, List.getD_cons_zero, List.getD_cons_succ, List.drop_succ_cons, List.drop_zero]
          refine wpMix_reads 9 _ (by kernel_rfl) ?_
          simp only [List.take_succ_cons, List.take_zero, List.drop_succ_cons, List.drop_zero]
          repeat (go_big_quiet_step (fail))
          refine wpQuiet_nil ?_
          have hbA : Below w3.heap.size w3 (w3.drew.alloc (.cells #[.slice (some ⟨g, 0, none⟩) bs.length cap] 31 (0, 0))) := below_trans (below_drew _) (below_alloc _ _)
          have K4 := Lib.hid (K3.out.keep hbA)
          have C4 := Lib.hid (C3.out.keep hbA)
          have O4 := Lib.hid (O3.out.keep hbA)
          have P4 : Hid (∀ (v : Value) (ds : List (BitVec 8)), OwnB w lo v ds → OwnB (w3.drew.alloc (.cells #[.slice (some ⟨g, 0, none⟩) bs.length cap] 31 (0, 0))) lo v ds) := Lib.hid fun v ds h => (P3.out v ds h).keep hbA
          have B4 := Lib.hid (B3.out.trans (hbA.mono (Nat.le_trans hlo B3.out.size)))
          have NW := Lib.hid (news_one w3.drew (.slice (some ⟨g, 0, none⟩) bs.length cap) 31 (0, 0))
          have LT := Lib.hid (heap_lt K4.out.box)
          have LA := Lib.hid (block_lt_of_cell (C4.out.cell t _ (Nat.le_refl _) HV.out))
          clear hbA
          refine wpMix_act rfl ?_ rfl
          go_wp2_with fail
          refine ⟨⟨⟨_, ⟨K4.out.cell0, C4.out.cell t _ (Nat.le_refl _) HV.out⟩⟩, rfl⟩, ?_⟩
          refine wpMix_act rfl ?_ rfl
          refine wpList_append_lies _ (o := ⟨some 53, _, _, _, _, _⟩) rfl _ _ 47 rfl lo 31 i0 (.slice none 0 0) 1 24 Try.underlying47 HI.out HZ0.out HZ1.out HZ2.out rfl (by decide) lv' xs'.length xs' rfl K4.out.list ⟨w3.heap.size, 0, none⟩ 1 1 [.slice (some ⟨g, 0, none⟩) bs.length cap] rfl rfl NW.out (fun u hu => by obtain rfl := List.mem_singleton.1 hu; rfl) (by decide) (by simp only [maxLen]; omega) (by omega) (Nat.le_trans hlo B4.out.size) _ rfl ?_
          intro g4 cap4 w5 ho5 hg5 hat hl5
          have K6 := Lib.hid (K4.out.push O4.out (by simp [Value.ownBlock]) (fun y hy => C4.out.new t _ (Nat.le_refl _) HV.out g rfl y hy) (by have := H1.out; omega) ho5 hg5 hat)
          have B6 := Lib.hid ((B4.out.grown hg5 (Nat.le_trans hlo B4.out.size) (fun k hk => (rows_blk K4.out.list hk).1)).setCell (p := ⟨kb, 0, none⟩) K4.out.low (.slice (some ⟨g4, 0, none⟩) (xs'.length + 1) cap4))
          have P6 : Hid (∀ (v : Value) (ds : List (BitVec 8)), OwnB w lo v ds → OwnB (w5.setCell ⟨kb, 0, none⟩ (.slice (some ⟨g4, 0, none⟩) (xs'.length + 1) cap4)) lo v ds) := Lib.hid fun v ds h => K4.out.own_push hg5 (P4.out v ds h)
          have F6 : Hid (∀ p, p < w.heap.size → p ≠ kb → lv.ownBlock ≠ some p → (w5.setCell ⟨kb, 0, none⟩ (.slice (some ⟨g4, 0, none⟩) (xs'.length + 1) cap4)).heap[p]? = w.heap[p]? ∧ (Value.slice (some ⟨g4, 0, none⟩) (xs'.length + 1) cap4).ownBlock ≠ some p) := Lib.hid fun p h1 h2 h3 => by
            obtain ⟨f1, f2⟩ := F3.out p h1 h2 h3
            have hp3 : p < w3.heap.size := Nat.lt_of_lt_of_le h1 B3.out.size
            have hpA : p < (w3.drew.alloc (.cells #[.slice (some ⟨g, 0, none⟩) bs.length cap] 31 (0, 0))).heap.size := by simp; omega
            refine ⟨?_, fun e => ?_⟩
            · rw [push_block (kb := kb) hg5 hpA h2 f2]
              exact ((below_trans (below_drew w3) (below_alloc _ _)).block p hp3).trans f1
            · have e : g4 = p := by simpa [Value.ownBlock] using e
              subst e
              rcases hat with h | h
              · exact f2 h
              · exact Nat.lt_irrefl _ (Nat.lt_of_lt_of_le hpA (Nat.le_of_eq h.symm))
          have S6 : Hid (Short (xs' ++ [.slice (some ⟨g, 0, none⟩) bs.length cap])) := Lib.hid fun x hx a n c e => by
            rcases List.mem_append.1 hx with hx | hx
            · exact hS.out x hx a n c e
            · obtain rfl := List.mem_singleton.1 hx
              injection e with _ e _
              have := hmr.out
              omega
          have hLA : lv'.ownBlock ≠ some la := hL.out
          have C5 := C4.out.move (push_block (kb := kb) (v' := .slice (some ⟨g4, 0, none⟩) (xs'.length + 1) cap4) hg5 LA.out (fun e => HKL.out e.symm) hLA) (fun v bs ho => K4.out.own_push hg5 ho)
          have C6 : Hid (Come (w5.setCell ⟨kb, 0, none⟩ (.slice (some ⟨g4, 0, none⟩) (xs'.length + 1) cap4)) lo la (xs' ++ [.slice (some ⟨g, 0, none⟩) bs.length cap]) vs (t + 1)) := Lib.hid ⟨fun j v hj hv => C5.cell j v (by omega) hv, fun j v hj hv => C5.own j v (by omega) hv, fun j v hj hv p hp x hx => by
            rcases List.mem_append.1 hx with hx | hx
            · exact C5.new j v (by omega) hv p hp x hx
            · obtain rfl := List.mem_singleton.1 hx
              rcases C5.apart t j _ v (by omega) HV.out hv with h | h
              · cases h
              · rw [← hp]; exact h, C5.apart⟩
          have L6 : Hid ((Value.slice (some ⟨g4, 0, none⟩) (xs'.length + 1) cap4).ownBlock ≠ some la) := Lib.hid (fun e => by
            have e : g4 = la := by simpa [Value.ownBlock] using e
            subst e
            rcases hat with h | h
            · exact hLA h
            · exact Nat.lt_irrefl _ (Nat.lt_of_lt_of_le LA.out (Nat.le_of_eq h.symm)))
          have q5 : w5.cell? ⟨kb, 0, none⟩ = some lv' := (World.cell?_of_block (a := ⟨kb, 0, none⟩) (hg5.block kb LT.out (fun e => (K4.out.list_ne e.symm).1 rfl))).trans K4.out.cell0
          have f5 : w5.frozen? ⟨kb, 0, none⟩ = false := (World.frozen?_of_block (a := ⟨kb, 0, none⟩) (hg5.block kb LT.out (fun e => (K4.out.list_ne e.symm).1 rfl))).trans (K4.out.free 0)
          have ql5 : w5.cell? ⟨la, t, none⟩ = some (.slice (some ⟨g, 0, none⟩) bs.length cap) := (World.cell?_of_block (a := ⟨la, t, none⟩) (hg5.block la LA.out (fun e => hLA e.symm))).trans (C4.out.cell t _ (Nat.le_refl _) HV.out)
          clear ho5 hg5 hat hl5 hLA C5 K4 C4 O4 B4 K3 B3 C3 O3 NW LT LA
          refine ⟨⟨⟨_, ⟨q5, ql5⟩⟩, rfl⟩, ?_⟩
          refine wpMix_reads 2 _ (by kernel_rfl) ?_
          simp only [List.take_succ_cons, List.take_zero, List.drop_succ_cons, List.drop_zero, Act.put, List.setIfInBounds_toArray, List.set_cons_zero, List.set_cons_succ]
          repeat (go_big_quiet_step (fail))
          refine wpQuiet_nil ?_
          refine wpMix_nil ?_
          clear hne q0 ql ql5
          change wpList _ _ _ _ _ _
          go_wp2_with fail
          go_roundw
          case rel => exact ⟨t + 1, _, _, _, by omega, by go_num, K6.out, C6, L6, B6.out, P6, F6, S6⟩
          case measure => simp [intOf]; omega
    · have hge : (vs.length : Int) ≤ (t : Int) := by omega
      go_wp2_with fail
      refine ⟨rfl, _, results_none rfl _ _ _, rfl, ?_⟩
      exact ⟨lv', z', xs', HK1.out, HB1.out, hP.out, fun p h1 h2 h3 => (hF.out p h1 h2 h3).1, hS.out⟩
end Go.Proofs.Ytmkljmljbbijeaa

/- A region that draws its order, in a deferred closure that recovers. -/
import Derived.Recover
import Derived.Test.YtmkljmljbbijeaaChecked
import Derived.WalkKit
import Derived.Test.YtmkljmljbbijeaaBits
namespace Go.Proofs.Ytmkljmljbbijeaa
open Go Go.RowKit

set_option maxRecDepth 100000 in
theorem wpS_region_draw {P : Program} {Q : Exit → Act → List Frame → World → Prop} {a : Act} {cs : List Frame} {w : World} {id : Nat} {ops : Array Oper} (h : ∀ t, wpOpsS P ops Q (Region.schedule (P.follows .mixedOrders) ops t) a cs { w with drawn := w.drawn + 1 }) : (Code.region id ops true).wpS P Q a cs w :=
  fun b k hb hr => let ⟨e, a', cs', w', q, r⟩ := wp_opsS _ a cs _ (h _) b k hb hr; ⟨e, a', cs', w', q, .of_steps (.one step_region_draw) r⟩

/-- Memory as it was but for block b. -/
structure But (b : Nat) (w w' : World) : Prop where
  os : w'.os = w.os
  tape : w'.tape = w.tape
  output : w'.output = w.output
  size : w.heap.size ≤ w'.heap.size
  block : ∀ k, k < w.heap.size → k ≠ b → w'.heap[k]? = w.heap[k]?
set_option maxRecDepth 100000 in
theorem But.refl (b : Nat) (w : World) : But b w w := ⟨rfl, rfl, rfl, Nat.le_refl _, fun _ _ _ => rfl⟩
set_option maxRecDepth 100000 in
theorem But.trans {b : Nat} {w w1 w2 : World} (h : But b w w1) (k : But b w1 w2) : But b w w2 :=
  ⟨k.os.trans h.os, k.tape.trans h.tape, k.output.trans h.output, Nat.le_trans h.size k.size, fun i hi hb => (k.block i (by have := h.size; omega) hb).trans (h.block i hi hb)⟩
set_option maxRecDepth 100000 in
theorem But.of_below {b : Nat} {w w1 w2 : World} (h : But b w w1) (k : Below w1.heap.size w1 w2) : But b w w2 :=
  h.trans ⟨k.os, k.tape, k.output, k.size, fun i hi _ => k.block i hi⟩
set_option maxRecDepth 100000 in
theorem But.below {b B : Nat} {w0 w w' : World} (h0 : Below B w0 w) (h : But b w w') (hb : B ≤ b) (hs : B ≤ w.heap.size) : Below B w0 w' :=
  h0.trans ⟨h.os, h.tape, h.output, h.size, fun k hk => h.block k (by omega) (by omega)⟩
set_option maxRecDepth 100000 in
theorem But.setB {b : Nat} {w w1 : World} (h : But b w w1) (o : Nat) (v : Value) : But b w (w1.setCell ⟨b, o, none⟩ v) :=
  h.trans ⟨rfl, rfl, rfl, by simp [World.setCell], fun k _ hk => Below.heap_setCell _ _ _ _ hk⟩
set_option maxRecDepth 100000 in
theorem But.setNew {b : Nat} {w w1 : World} (h : But b w w1) (a : Addr) (ha : w.heap.size ≤ a.block) (v : Value) : But b w (w1.setCell a v) :=
  ⟨h.os, h.tape, h.output, by simp [World.setCell]; exact h.size, fun k hk hb => (Below.heap_setCell _ _ _ _ (by omega)).trans (h.block k hk hb)⟩
set_option maxRecDepth 100000 in
theorem But.cell {b : Nat} {w w' : World} (h : But b w w') {a : Addr} {v : Value} (hc : w.cell? a = some v) (hb : a.block ≠ b) : w'.cell? a = some v :=
  (World.cell?_of_block (w := w) (h.block a.block (block_lt_of_cell hc) hb)).trans hc
set_option maxRecDepth 100000 in
theorem But.frozen {b : Nat} {w w' : World} (h : But b w w') {a : Addr} (hl : a.block < w.heap.size) (hb : a.block ≠ b) : w'.frozen? a = w.frozen? a :=
  World.frozen?_of_block (w := w) (h.block a.block hl hb)
set_option maxRecDepth 100000 in
theorem But.bytes {b : Nat} {w w' : World} (h : But b w w') {ao : Option Addr} {bs : List (BitVec 8)} (hs : BytesAt w ao bs) (hb : ∀ g off, ao = some ⟨g, off, none⟩ → g ≠ b) : BytesAt w' ao bs := fun i hi => by
  obtain ⟨g, off, e, hc⟩ := hs i hi
  exact ⟨g, off, e, h.cell hc (hb _ _ e)⟩

/-- Cell k of block b turned; the others of it, and all other old blocks, as they were. -/
structure Upd (b k : Nat) (v : Value) (w w' : World) : Prop where
  but : But b w w'
  val : w'.cell? ⟨b, k, none⟩ = some v
  others : ∀ j, j ≠ k → w'.cell? ⟨b, j, none⟩ = w.cell? ⟨b, j, none⟩
  frozen : ∀ j, w'.frozen? ⟨b, j, none⟩ = w.frozen? ⟨b, j, none⟩
set_option maxRecDepth 100000 in
theorem Upd.of {b k : Nat} {u v : Value} {w w1 : World} (h : Below w.heap.size w w1) (hc : w.cell? ⟨b, k, none⟩ = some u) : Upd b k v w (w1.setCell ⟨b, k, none⟩ v) := by
  have hl := block_lt_of_cell hc
  refine ⟨((But.refl b w).of_below h).setB k v, ?_, fun j hj => ?_, fun j => ?_⟩
  · exact World.cell?_setCell_same _ _ _ (cell_keep h hc)
  · rw [World.cell?_setCell_other _ _ _ _ (by intro e; injection e; omega)]
    exact h.cell (p := ⟨b, j, none⟩) hl
  · rw [World.frozen?_setCell]
    exact h.frozen (p := ⟨b, j, none⟩) hl

set_option maxRecDepth 100000 in
theorem Upd.from' {b k : Nat} {v : Value} {w w0 w1 : World} (h : Upd b k v w0 w1) (hb : Below w.heap.size w w0) (hl : b < w.heap.size) : Upd b k v w w1 :=
  ⟨((But.refl b w).of_below hb).trans h.but, h.val, fun j hj => (h.others j hj).trans (hb.cell (p := ⟨b, j, none⟩) hl), fun j => (h.frozen j).trans (hb.frozen (p := ⟨b, j, none⟩) hl)⟩
set_option maxRecDepth 100000 in
theorem Upd.on {b k : Nat} {v : Value} {w w1 w2 : World} (h : Upd b k v w w1) (hb : Below w1.heap.size w1 w2) : Upd b k v w w2 := by
  have hl := block_lt_of_cell h.val
  exact ⟨h.but.of_below hb, cell_keep hb h.val, fun j hj => (hb.cell (p := ⟨b, j, none⟩) hl).trans (h.others j hj), fun j => (hb.frozen (p := ⟨b, j, none⟩) hl).trans (h.frozen j)⟩

set_option maxRecDepth 100000 in
set_option maxRecDepth 100000 in
/-- Nothing went up. -/
theorem stop_nil (p : Option Addr) (w : World) : Calls Try.prog 103 #[.pointer p, .nilIface] w fun e w' => e = .returned (.bool false) ∧ w = w' := by
  go_enter Try.func103, Try.ntmps103
  go_wp2_with fail
  go_ret
  exact ⟨rfl, rfl⟩
set_option maxRecDepth 100000 in
theorem assert_fault (x : Int) (w : World) : (Instr.typeAssert (.iface 155 (.agg #[.int .i64 x])) 20 155 true).run Try.prog w = .ok (.tuple #[.agg #[.int .i64 x], .bool true]) w := rfl
set_option maxRecDepth 100000 in
theorem stop_fault (b : Nat) (x : Int) (u : Value) (w : World) (hc : w.cell? ⟨b, 2, none⟩ = some u) (hz : w.frozen? ⟨b, 2, none⟩ = false) :
    Calls Try.prog 103 #[.pointer (some ⟨b, 0, none⟩), .iface 155 (.agg #[.int .i64 x])] w fun e w' => e = .returned (.bool true) ∧ Upd b 2 (.int .i64 x) w w' := by
  have hl := block_lt_of_cell hc
  have hta := assert_fault
  go_enter Try.func103, Try.ntmps103
  go_wp2_with fail
  go_ret
  exact ⟨rfl, (Upd.of (Below.refl _ _) hc).on (below_alloc _ _)⟩
set_option maxRecDepth 100000 in
theorem stop_none (x : Int) (w : World) :
    Calls Try.prog 103 #[.pointer none, .iface 155 (.agg #[.int .i64 x])] w fun e w' => e = .returned (.bool true) ∧ Below w.heap.size w w' := by
  have hta := assert_fault
  go_enter Try.func103, Try.ntmps103
  go_wp2_with fail
  go_ret
  exact ⟨rfl, below_alloc _ _⟩
/-- What goes up at the first error. -/
def faultV (x : Int) : Value := .iface 155 (.agg #[.int .i64 x])


/-- Behind a closure that met a fault: the reader has stopped, the named result is 0. -/
structure Caught (b : Nat) (x : Int) (pn : Addr) (z : Value) (w w' : World) : Prop where
  mid : ∃ w1, Upd b 2 (.int .i64 x) w w1 ∧ w' = w1.setCell pn z

set_option maxRecDepth 100000 in
theorem idle_varint (pr pn : Addr) (p : Option Addr) (w : World) (hr : w.cell? pr = some (.pointer p)) :
    CallsD Try.prog 111 #[.pointer (some pr), .pointer (some pn)] .returning w fun e u' w' => e = .returned (.tuple #[]) ∧ u' = .returning ∧ w' = w.drew := by
  refine callsD_of_wpS Try.func111 rfl fun c₀ cs hu => ?_
  apply wpS_seq
  apply wpS_region_draw
  intro t
  generalize hl : Region.schedule _ _ t = l
  have hs : l = [0, 1, 2] ∨ l = [1, 0, 2] := by
    subst hl
    have hm : Try.prog.follows .mixedOrders = true := by kernel_rfl
    rcases Nat.mod_two_eq_zero_or_one t with h | h <;> simp [Region.schedule, hm, Region.linearise, Region.linearise.go, h, List.range, List.range.loop, Region.binds, Nat.mod_one]
  clear hl
  rcases hs with rfl | rfl <;>
  · simp [wpOpsS, go_sem, recoverD, hu, hr, Try.ntmps111, Exit.thenS]
    refine (stop_nil _ _).mono ?_
    rintro e w' ⟨rfl, rfl⟩
    refine wpS_cond (t := false) (by simp [Act.eval, Array.replicate]) ?_
    simp only [Bool.false_eq_true, if_false]
    refine wpS_of_wp (wp_skip ?_)
    cases c₀
    simp_all [bodyPostS, results, Try.results111]
set_option maxRecDepth 100000 in
theorem catch_varint (pr pn : Addr) (b : Nat) (x : Int) (u un : Value) (older : List PanicEntry) (w : World) (hr : w.cell? pr = some (.pointer (some ⟨b, 0, none⟩)))
    (hc : w.cell? ⟨b, 2, none⟩ = some u) (hz : w.frozen? ⟨b, 2, none⟩ = false) (hn : w.cell? pn = some un) (hnz : w.frozen? pn = false) (hb : pn.block ≠ b) :
    CallsD Try.prog 111 #[.pointer (some pr), .pointer (some pn)] (.panicking ({ v := faultV x, recovered := false } :: older)) w fun e u' w' =>
      e = .returned (.tuple #[]) ∧ u' = .panicking ({ v := faultV x, recovered := true } :: older) ∧ Caught b x pn (.int .u64 0) w.drew w' := by
  refine callsD_of_wpS Try.func111 rfl fun c₀ cs hu => ?_
  have hc' : w.drew.cell? ⟨b, 2, none⟩ = some u := hc
  have hz' : w.drew.frozen? ⟨b, 2, none⟩ = false := hz
  apply wpS_seq
  apply wpS_region_draw
  intro t
  generalize hl : Region.schedule _ _ t = l
  have hs : l = [0, 1, 2] ∨ l = [1, 0, 2] := by
    subst hl
    have hm : Try.prog.follows .mixedOrders = true := by kernel_rfl
    rcases Nat.mod_two_eq_zero_or_one t with h | h <;> simp [Region.schedule, hm, Region.linearise, Region.linearise.go, h, List.range, List.range.loop, Region.binds, Nat.mod_one]
  clear hl
  rcases hs with rfl | rfl <;>
  · simp [wpOpsS, go_sem, recoverD, hu, hr, faultV, Try.ntmps111, Exit.thenS]
    refine (stop_fault b x u _ hc' hz').mono ?_
    rintro e w1 ⟨rfl, hU⟩
    have hn1 : w1.cell? pn = some un := hU.but.cell hn hb
    have hnz1 : w1.frozen? pn = false := (hU.but.frozen (block_lt_of_cell hn) hb).trans hnz
    refine wpS_cond (t := true) (by simp [Act.eval, Array.replicate]) ?_
    simp only [if_true]
    apply wpS_region
    simp [wpOpsS, go_sem, hn1, hnz1, bodyPostS, results, Try.results111]
    exact ⟨⟨_, hU, rfl⟩⟩
set_option maxRecDepth 100000 in
theorem catch_none_varint (pr pn : Addr) (x : Int) (un : Value) (older : List PanicEntry) (w : World) (hr : w.cell? pr = some (.pointer none))
    (hn : w.cell? pn = some un) (hnz : w.frozen? pn = false) :
    CallsD Try.prog 111 #[.pointer (some pr), .pointer (some pn)] (.panicking ({ v := faultV x, recovered := false } :: older)) w fun e u' w' =>
      e = .returned (.tuple #[]) ∧ u' = .panicking ({ v := faultV x, recovered := true } :: older) ∧ ∃ w1, Below w.heap.size w.drew w1 ∧ w' = w1.setCell pn (.int .u64 0) := by
  refine callsD_of_wpS Try.func111 rfl fun c₀ cs hu => ?_
  apply wpS_seq
  apply wpS_region_draw
  intro t
  generalize hl : Region.schedule _ _ t = l
  have hs : l = [0, 1, 2] ∨ l = [1, 0, 2] := by
    subst hl
    have hm : Try.prog.follows .mixedOrders = true := by kernel_rfl
    rcases Nat.mod_two_eq_zero_or_one t with h | h <;> simp [Region.schedule, hm, Region.linearise, Region.linearise.go, h, List.range, List.range.loop, Region.binds, Nat.mod_one]
  clear hl
  rcases hs with rfl | rfl <;>
  · simp [wpOpsS, go_sem, recoverD, hu, hr, faultV, Try.ntmps111, Exit.thenS]
    refine (stop_none x _).mono ?_
    rintro e w1 ⟨rfl, hU⟩
    have hn1 : w1.cell? pn = some un := (hU.cell (block_lt_of_cell hn)).trans hn
    have hnz1 : w1.frozen? pn = false := (hU.frozen (block_lt_of_cell hn)).trans hnz
    refine wpS_cond (t := true) (by simp [Act.eval, Array.replicate]) ?_
    simp only [if_true]
    apply wpS_region
    simp [wpOpsS, go_sem, hn1, hnz1, bodyPostS, results, Try.results111]
    exact ⟨_, hU, rfl⟩
set_option maxRecDepth 100000 in
theorem idle_fixed32 (pr pn : Addr) (p : Option Addr) (w : World) (hr : w.cell? pr = some (.pointer p)) :
    CallsD Try.prog 102 #[.pointer (some pr), .pointer (some pn)] .returning w fun e u' w' => e = .returned (.tuple #[]) ∧ u' = .returning ∧ w' = w.drew := by
  refine callsD_of_wpS Try.func102 rfl fun c₀ cs hu => ?_
  apply wpS_seq
  apply wpS_region_draw
  intro t
  generalize hl : Region.schedule _ _ t = l
  have hs : l = [0, 1, 2] ∨ l = [1, 0, 2] := by
    subst hl
    have hm : Try.prog.follows .mixedOrders = true := by kernel_rfl
    rcases Nat.mod_two_eq_zero_or_one t with h | h <;> simp [Region.schedule, hm, Region.linearise, Region.linearise.go, h, List.range, List.range.loop, Region.binds, Nat.mod_one]
  clear hl
  rcases hs with rfl | rfl <;>
  · simp [wpOpsS, go_sem, recoverD, hu, hr, Try.ntmps102, Exit.thenS]
    refine (stop_nil _ _).mono ?_
    rintro e w' ⟨rfl, rfl⟩
    refine wpS_cond (t := false) (by simp [Act.eval, Array.replicate]) ?_
    simp only [Bool.false_eq_true, if_false]
    refine wpS_of_wp (wp_skip ?_)
    cases c₀
    simp_all [bodyPostS, results, Try.results102]
set_option maxRecDepth 100000 in
theorem catch_fixed32 (pr pn : Addr) (b : Nat) (x : Int) (u un : Value) (older : List PanicEntry) (w : World) (hr : w.cell? pr = some (.pointer (some ⟨b, 0, none⟩)))
    (hc : w.cell? ⟨b, 2, none⟩ = some u) (hz : w.frozen? ⟨b, 2, none⟩ = false) (hn : w.cell? pn = some un) (hnz : w.frozen? pn = false) (hb : pn.block ≠ b) :
    CallsD Try.prog 102 #[.pointer (some pr), .pointer (some pn)] (.panicking ({ v := faultV x, recovered := false } :: older)) w fun e u' w' =>
      e = .returned (.tuple #[]) ∧ u' = .panicking ({ v := faultV x, recovered := true } :: older) ∧ Caught b x pn (.int .u32 0) w.drew w' := by
  refine callsD_of_wpS Try.func102 rfl fun c₀ cs hu => ?_
  have hc' : w.drew.cell? ⟨b, 2, none⟩ = some u := hc
  have hz' : w.drew.frozen? ⟨b, 2, none⟩ = false := hz
  apply wpS_seq
  apply wpS_region_draw
  intro t
  generalize hl : Region.schedule _ _ t = l
  have hs : l = [0, 1, 2] ∨ l = [1, 0, 2] := by
    subst hl
    have hm : Try.prog.follows .mixedOrders = true := by kernel_rfl
    rcases Nat.mod_two_eq_zero_or_one t with h | h <;> simp [Region.schedule, hm, Region.linearise, Region.linearise.go, h, List.range, List.range.loop, Region.binds, Nat.mod_one]
  clear hl
  rcases hs with rfl | rfl <;>
  · simp [wpOpsS, go_sem, recoverD, hu, hr, faultV, Try.ntmps102, Exit.thenS]
    refine (stop_fault b x u _ hc' hz').mono ?_
    rintro e w1 ⟨rfl, hU⟩
    have hn1 : w1.cell? pn = some un := hU.but.cell hn hb
    have hnz1 : w1.frozen? pn = false := (hU.but.frozen (block_lt_of_cell hn) hb).trans hnz
    refine wpS_cond (t := true) (by simp [Act.eval, Array.replicate]) ?_
    simp only [if_true]
    apply wpS_region
    simp [wpOpsS, go_sem, hn1, hnz1, bodyPostS, results, Try.results102]
    exact ⟨⟨_, hU, rfl⟩⟩
set_option maxRecDepth 100000 in
theorem catch_none_fixed32 (pr pn : Addr) (x : Int) (un : Value) (older : List PanicEntry) (w : World) (hr : w.cell? pr = some (.pointer none))
    (hn : w.cell? pn = some un) (hnz : w.frozen? pn = false) :
    CallsD Try.prog 102 #[.pointer (some pr), .pointer (some pn)] (.panicking ({ v := faultV x, recovered := false } :: older)) w fun e u' w' =>
      e = .returned (.tuple #[]) ∧ u' = .panicking ({ v := faultV x, recovered := true } :: older) ∧ ∃ w1, Below w.heap.size w.drew w1 ∧ w' = w1.setCell pn (.int .u32 0) := by
  refine callsD_of_wpS Try.func102 rfl fun c₀ cs hu => ?_
  apply wpS_seq
  apply wpS_region_draw
  intro t
  generalize hl : Region.schedule _ _ t = l
  have hs : l = [0, 1, 2] ∨ l = [1, 0, 2] := by
    subst hl
    have hm : Try.prog.follows .mixedOrders = true := by kernel_rfl
    rcases Nat.mod_two_eq_zero_or_one t with h | h <;> simp [Region.schedule, hm, Region.linearise, Region.linearise.go, h, List.range, List.range.loop, Region.binds, Nat.mod_one]
  clear hl
  rcases hs with rfl | rfl <;>
  · simp [wpOpsS, go_sem, recoverD, hu, hr, faultV, Try.ntmps102, Exit.thenS]
    refine (stop_none x _).mono ?_
    rintro e w1 ⟨rfl, hU⟩
    have hn1 : w1.cell? pn = some un := (hU.cell (block_lt_of_cell hn)).trans hn
    have hnz1 : w1.frozen? pn = false := (hU.frozen (block_lt_of_cell hn)).trans hnz
    refine wpS_cond (t := true) (by simp [Act.eval, Array.replicate]) ?_
    simp only [if_true]
    apply wpS_region
    simp [wpOpsS, go_sem, hn1, hnz1, bodyPostS, results, Try.results102]
    exact ⟨_, hU, rfl⟩
end Go.Proofs.Ytmkljmljbbijeaa

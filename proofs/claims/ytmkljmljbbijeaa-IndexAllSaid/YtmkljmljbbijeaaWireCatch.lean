/- The closures of Signed, Fixed64, Byte and String that recover (printed from those of Fixed32). -/
import Derived.Test.YtmkljmljbbijeaaWireRecover
namespace Go.Proofs.Ytmkljmljbbijeaa
open Go Go.RowKit

set_option maxRecDepth 100000 in
theorem idle_signed (pr pn : Addr) (p : Option Addr) (w : World) (hr : w.cell? pr = some (.pointer p)) :
    CallsD Try.prog 113 #[.pointer (some pr), .pointer (some pn)] .returning w fun e u' w' => e = .returned (.tuple #[]) ∧ u' = .returning ∧ w' = w.drew := by
  refine callsD_of_wpS Try.func113 rfl fun c₀ cs hu => ?_
  apply wpS_seq
  apply wpS_region_draw
  intro t
  generalize hl : Region.schedule _ _ t = l
  have hs : l = [0, 1, 2] ∨ l = [1, 0, 2] := by
    subst hl
    have hm : Try.prog.follows .mixedOrders = true := by kernel_rfl
    rcases Nat.mod_two_eq_zero_or_one t with h | h <;> simp [Region.schedule, hm, Region.linearise, Region.linearise.go, h, List.range, List.range.loop, Region.binds, Nat.mod_one]
  clear hl
  rcases hs with rfl | rfl <;>
  · simp [wpOpsS, go_sem, recoverD, hu, hr, Try.ntmps113, Exit.thenS]
    refine (stop_nil _ _).mono ?_
    rintro e w' ⟨rfl, rfl⟩
    refine wpS_cond (t := false) (by simp [Act.eval, Array.replicate]) ?_
    simp only [Bool.false_eq_true, if_false]
    refine wpS_of_wp (wp_skip ?_)
    cases c₀
    simp_all [bodyPostS, results, Try.results113]
set_option maxRecDepth 100000 in
theorem catch_signed (pr pn : Addr) (b : Nat) (x : Int) (u un : Value) (older : List PanicEntry) (w : World) (hr : w.cell? pr = some (.pointer (some ⟨b, 0, none⟩)))
    (hc : w.cell? ⟨b, 2, none⟩ = some u) (hz : w.frozen? ⟨b, 2, none⟩ = false) (hn : w.cell? pn = some un) (hnz : w.frozen? pn = false) (hb : pn.block ≠ b) :
    CallsD Try.prog 113 #[.pointer (some pr), .pointer (some pn)] (.panicking ({ v := faultV x, recovered := false } :: older)) w fun e u' w' =>
      e = .returned (.tuple #[]) ∧ u' = .panicking ({ v := faultV x, recovered := true } :: older) ∧ Caught b x pn (.int .i64 0) w.drew w' := by
  refine callsD_of_wpS Try.func113 rfl fun c₀ cs hu => ?_
  have hc' : w.drew.cell? ⟨b, 2, none⟩ = some u := hc
  have hz' : w.drew.frozen? ⟨b, 2, none⟩ = false := hz
  apply wpS_seq
  apply wpS_region_draw
  intro t
  generalize hl : Region.schedule _ _ t = l
  have hs : l = [0, 1, 2] ∨ l = [1, 0, 2] := by
    subst hl
    have hm : Try.prog.follows .mixedOrders = true := by kernel_rfl
    rcases Nat.mod_two_eq_zero_or_one t with h | h <;> simp [Region.schedule, hm, Region.linearise, Region.linearise.go, h, List.range, List.range.loop, Region.binds, Nat.mod_one]
  clear hl
  rcases hs with rfl | rfl <;>
  · simp [wpOpsS, go_sem, recoverD, hu, hr, faultV, Try.ntmps113, Exit.thenS]
    refine (stop_fault b x u _ hc' hz').mono ?_
    rintro e w1 ⟨rfl, hU⟩
    have hn1 : w1.cell? pn = some un := hU.but.cell hn hb
    have hnz1 : w1.frozen? pn = false := (hU.but.frozen (block_lt_of_cell hn) hb).trans hnz
    refine wpS_cond (t := true) (by simp [Act.eval, Array.replicate]) ?_
    simp only [if_true]
    apply wpS_region
    simp [wpOpsS, go_sem, hn1, hnz1, bodyPostS, results, Try.results113]
    exact ⟨⟨_, hU, rfl⟩⟩
set_option maxRecDepth 100000 in
theorem catch_none_signed (pr pn : Addr) (x : Int) (un : Value) (older : List PanicEntry) (w : World) (hr : w.cell? pr = some (.pointer none))
    (hn : w.cell? pn = some un) (hnz : w.frozen? pn = false) :
    CallsD Try.prog 113 #[.pointer (some pr), .pointer (some pn)] (.panicking ({ v := faultV x, recovered := false } :: older)) w fun e u' w' =>
      e = .returned (.tuple #[]) ∧ u' = .panicking ({ v := faultV x, recovered := true } :: older) ∧ ∃ w1, Below w.heap.size w.drew w1 ∧ w' = w1.setCell pn (.int .i64 0) := by
  refine callsD_of_wpS Try.func113 rfl fun c₀ cs hu => ?_
  apply wpS_seq
  apply wpS_region_draw
  intro t
  generalize hl : Region.schedule _ _ t = l
  have hs : l = [0, 1, 2] ∨ l = [1, 0, 2] := by
    subst hl
    have hm : Try.prog.follows .mixedOrders = true := by kernel_rfl
    rcases Nat.mod_two_eq_zero_or_one t with h | h <;> simp [Region.schedule, hm, Region.linearise, Region.linearise.go, h, List.range, List.range.loop, Region.binds, Nat.mod_one]
  clear hl
  rcases hs with rfl | rfl <;>
  · simp [wpOpsS, go_sem, recoverD, hu, hr, faultV, Try.ntmps113, Exit.thenS]
    refine (stop_none x _).mono ?_
    rintro e w1 ⟨rfl, hU⟩
    have hn1 : w1.cell? pn = some un := (hU.cell (block_lt_of_cell hn)).trans hn
    have hnz1 : w1.frozen? pn = false := (hU.frozen (block_lt_of_cell hn)).trans hnz
    refine wpS_cond (t := true) (by simp [Act.eval, Array.replicate]) ?_
    simp only [if_true]
    apply wpS_region
    simp [wpOpsS, go_sem, hn1, hnz1, bodyPostS, results, Try.results113]
    exact ⟨_, hU, rfl⟩
set_option maxRecDepth 100000 in
theorem idle_fixed64 (pr pn : Addr) (p : Option Addr) (w : World) (hr : w.cell? pr = some (.pointer p)) :
    CallsD Try.prog 114 #[.pointer (some pr), .pointer (some pn)] .returning w fun e u' w' => e = .returned (.tuple #[]) ∧ u' = .returning ∧ w' = w.drew := by
  refine callsD_of_wpS Try.func114 rfl fun c₀ cs hu => ?_
  apply wpS_seq
  apply wpS_region_draw
  intro t
  generalize hl : Region.schedule _ _ t = l
  have hs : l = [0, 1, 2] ∨ l = [1, 0, 2] := by
    subst hl
    have hm : Try.prog.follows .mixedOrders = true := by kernel_rfl
    rcases Nat.mod_two_eq_zero_or_one t with h | h <;> simp [Region.schedule, hm, Region.linearise, Region.linearise.go, h, List.range, List.range.loop, Region.binds, Nat.mod_one]
  clear hl
  rcases hs with rfl | rfl <;>
  · simp [wpOpsS, go_sem, recoverD, hu, hr, Try.ntmps114, Exit.thenS]
    refine (stop_nil _ _).mono ?_
    rintro e w' ⟨rfl, rfl⟩
    refine wpS_cond (t := false) (by simp [Act.eval, Array.replicate]) ?_
    simp only [Bool.false_eq_true, if_false]
    refine wpS_of_wp (wp_skip ?_)
    cases c₀
    simp_all [bodyPostS, results, Try.results114]
set_option maxRecDepth 100000 in
theorem catch_fixed64 (pr pn : Addr) (b : Nat) (x : Int) (u un : Value) (older : List PanicEntry) (w : World) (hr : w.cell? pr = some (.pointer (some ⟨b, 0, none⟩)))
    (hc : w.cell? ⟨b, 2, none⟩ = some u) (hz : w.frozen? ⟨b, 2, none⟩ = false) (hn : w.cell? pn = some un) (hnz : w.frozen? pn = false) (hb : pn.block ≠ b) :
    CallsD Try.prog 114 #[.pointer (some pr), .pointer (some pn)] (.panicking ({ v := faultV x, recovered := false } :: older)) w fun e u' w' =>
      e = .returned (.tuple #[]) ∧ u' = .panicking ({ v := faultV x, recovered := true } :: older) ∧ Caught b x pn (.int .u64 0) w.drew w' := by
  refine callsD_of_wpS Try.func114 rfl fun c₀ cs hu => ?_
  have hc' : w.drew.cell? ⟨b, 2, none⟩ = some u := hc
  have hz' : w.drew.frozen? ⟨b, 2, none⟩ = false := hz
  apply wpS_seq
  apply wpS_region_draw
  intro t
  generalize hl : Region.schedule _ _ t = l
  have hs : l = [0, 1, 2] ∨ l = [1, 0, 2] := by
    subst hl
    have hm : Try.prog.follows .mixedOrders = true := by kernel_rfl
    rcases Nat.mod_two_eq_zero_or_one t with h | h <;> simp [Region.schedule, hm, Region.linearise, Region.linearise.go, h, List.range, List.range.loop, Region.binds, Nat.mod_one]
  clear hl
  rcases hs with rfl | rfl <;>
  · simp [wpOpsS, go_sem, recoverD, hu, hr, faultV, Try.ntmps114, Exit.thenS]
    refine (stop_fault b x u _ hc' hz').mono ?_
    rintro e w1 ⟨rfl, hU⟩
    have hn1 : w1.cell? pn = some un := hU.but.cell hn hb
    have hnz1 : w1.frozen? pn = false := (hU.but.frozen (block_lt_of_cell hn) hb).trans hnz
    refine wpS_cond (t := true) (by simp [Act.eval, Array.replicate]) ?_
    simp only [if_true]
    apply wpS_region
    simp [wpOpsS, go_sem, hn1, hnz1, bodyPostS, results, Try.results114]
    exact ⟨⟨_, hU, rfl⟩⟩
set_option maxRecDepth 100000 in
theorem catch_none_fixed64 (pr pn : Addr) (x : Int) (un : Value) (older : List PanicEntry) (w : World) (hr : w.cell? pr = some (.pointer none))
    (hn : w.cell? pn = some un) (hnz : w.frozen? pn = false) :
    CallsD Try.prog 114 #[.pointer (some pr), .pointer (some pn)] (.panicking ({ v := faultV x, recovered := false } :: older)) w fun e u' w' =>
      e = .returned (.tuple #[]) ∧ u' = .panicking ({ v := faultV x, recovered := true } :: older) ∧ ∃ w1, Below w.heap.size w.drew w1 ∧ w' = w1.setCell pn (.int .u64 0) := by
  refine callsD_of_wpS Try.func114 rfl fun c₀ cs hu => ?_
  apply wpS_seq
  apply wpS_region_draw
  intro t
  generalize hl : Region.schedule _ _ t = l
  have hs : l = [0, 1, 2] ∨ l = [1, 0, 2] := by
    subst hl
    have hm : Try.prog.follows .mixedOrders = true := by kernel_rfl
    rcases Nat.mod_two_eq_zero_or_one t with h | h <;> simp [Region.schedule, hm, Region.linearise, Region.linearise.go, h, List.range, List.range.loop, Region.binds, Nat.mod_one]
  clear hl
  rcases hs with rfl | rfl <;>
  · simp [wpOpsS, go_sem, recoverD, hu, hr, faultV, Try.ntmps114, Exit.thenS]
    refine (stop_none x _).mono ?_
    rintro e w1 ⟨rfl, hU⟩
    have hn1 : w1.cell? pn = some un := (hU.cell (block_lt_of_cell hn)).trans hn
    have hnz1 : w1.frozen? pn = false := (hU.frozen (block_lt_of_cell hn)).trans hnz
    refine wpS_cond (t := true) (by simp [Act.eval, Array.replicate]) ?_
    simp only [if_true]
    apply wpS_region
    simp [wpOpsS, go_sem, hn1, hnz1, bodyPostS, results, Try.results114]
    exact ⟨_, hU, rfl⟩
set_option maxRecDepth 100000 in
theorem idle_byte (pr pn : Addr) (p : Option Addr) (w : World) (hr : w.cell? pr = some (.pointer p)) :
    CallsD Try.prog 119 #[.pointer (some pr), .pointer (some pn)] .returning w fun e u' w' => e = .returned (.tuple #[]) ∧ u' = .returning ∧ w' = w.drew := by
  refine callsD_of_wpS Try.func119 rfl fun c₀ cs hu => ?_
  apply wpS_seq
  apply wpS_region_draw
  intro t
  generalize hl : Region.schedule _ _ t = l
  have hs : l = [0, 1, 2] ∨ l = [1, 0, 2] := by
    subst hl
    have hm : Try.prog.follows .mixedOrders = true := by kernel_rfl
    rcases Nat.mod_two_eq_zero_or_one t with h | h <;> simp [Region.schedule, hm, Region.linearise, Region.linearise.go, h, List.range, List.range.loop, Region.binds, Nat.mod_one]
  clear hl
  rcases hs with rfl | rfl <;>
  · simp [wpOpsS, go_sem, recoverD, hu, hr, Try.ntmps119, Exit.thenS]
    refine (stop_nil _ _).mono ?_
    rintro e w' ⟨rfl, rfl⟩
    refine wpS_cond (t := false) (by simp [Act.eval, Array.replicate]) ?_
    simp only [Bool.false_eq_true, if_false]
    refine wpS_of_wp (wp_skip ?_)
    cases c₀
    simp_all [bodyPostS, results, Try.results119]
set_option maxRecDepth 100000 in
theorem catch_byte (pr pn : Addr) (b : Nat) (x : Int) (u un : Value) (older : List PanicEntry) (w : World) (hr : w.cell? pr = some (.pointer (some ⟨b, 0, none⟩)))
    (hc : w.cell? ⟨b, 2, none⟩ = some u) (hz : w.frozen? ⟨b, 2, none⟩ = false) (hn : w.cell? pn = some un) (hnz : w.frozen? pn = false) (hb : pn.block ≠ b) :
    CallsD Try.prog 119 #[.pointer (some pr), .pointer (some pn)] (.panicking ({ v := faultV x, recovered := false } :: older)) w fun e u' w' =>
      e = .returned (.tuple #[]) ∧ u' = .panicking ({ v := faultV x, recovered := true } :: older) ∧ Caught b x pn (.int .u8 0) w.drew w' := by
  refine callsD_of_wpS Try.func119 rfl fun c₀ cs hu => ?_
  have hc' : w.drew.cell? ⟨b, 2, none⟩ = some u := hc
  have hz' : w.drew.frozen? ⟨b, 2, none⟩ = false := hz
  apply wpS_seq
  apply wpS_region_draw
  intro t
  generalize hl : Region.schedule _ _ t = l
  have hs : l = [0, 1, 2] ∨ l = [1, 0, 2] := by
    subst hl
    have hm : Try.prog.follows .mixedOrders = true := by kernel_rfl
    rcases Nat.mod_two_eq_zero_or_one t with h | h <;> simp [Region.schedule, hm, Region.linearise, Region.linearise.go, h, List.range, List.range.loop, Region.binds, Nat.mod_one]
  clear hl
  rcases hs with rfl | rfl <;>
  · simp [wpOpsS, go_sem, recoverD, hu, hr, faultV, Try.ntmps119, Exit.thenS]
    refine (stop_fault b x u _ hc' hz').mono ?_
    rintro e w1 ⟨rfl, hU⟩
    have hn1 : w1.cell? pn = some un := hU.but.cell hn hb
    have hnz1 : w1.frozen? pn = false := (hU.but.frozen (block_lt_of_cell hn) hb).trans hnz
    refine wpS_cond (t := true) (by simp [Act.eval, Array.replicate]) ?_
    simp only [if_true]
    apply wpS_region
    simp [wpOpsS, go_sem, hn1, hnz1, bodyPostS, results, Try.results119]
    exact ⟨⟨_, hU, rfl⟩⟩
set_option maxRecDepth 100000 in
theorem catch_none_byte (pr pn : Addr) (x : Int) (un : Value) (older : List PanicEntry) (w : World) (hr : w.cell? pr = some (.pointer none))
    (hn : w.cell? pn = some un) (hnz : w.frozen? pn = false) :
    CallsD Try.prog 119 #[.pointer (some pr), .pointer (some pn)] (.panicking ({ v := faultV x, recovered := false } :: older)) w fun e u' w' =>
      e = .returned (.tuple #[]) ∧ u' = .panicking ({ v := faultV x, recovered := true } :: older) ∧ ∃ w1, Below w.heap.size w.drew w1 ∧ w' = w1.setCell pn (.int .u8 0) := by
  refine callsD_of_wpS Try.func119 rfl fun c₀ cs hu => ?_
  apply wpS_seq
  apply wpS_region_draw
  intro t
  generalize hl : Region.schedule _ _ t = l
  have hs : l = [0, 1, 2] ∨ l = [1, 0, 2] := by
    subst hl
    have hm : Try.prog.follows .mixedOrders = true := by kernel_rfl
    rcases Nat.mod_two_eq_zero_or_one t with h | h <;> simp [Region.schedule, hm, Region.linearise, Region.linearise.go, h, List.range, List.range.loop, Region.binds, Nat.mod_one]
  clear hl
  rcases hs with rfl | rfl <;>
  · simp [wpOpsS, go_sem, recoverD, hu, hr, faultV, Try.ntmps119, Exit.thenS]
    refine (stop_none x _).mono ?_
    rintro e w1 ⟨rfl, hU⟩
    have hn1 : w1.cell? pn = some un := (hU.cell (block_lt_of_cell hn)).trans hn
    have hnz1 : w1.frozen? pn = false := (hU.frozen (block_lt_of_cell hn)).trans hnz
    refine wpS_cond (t := true) (by simp [Act.eval, Array.replicate]) ?_
    simp only [if_true]
    apply wpS_region
    simp [wpOpsS, go_sem, hn1, hnz1, bodyPostS, results, Try.results119]
    exact ⟨_, hU, rfl⟩
set_option maxRecDepth 100000 in
theorem idle_string (pr pn : Addr) (p : Option Addr) (w : World) (hr : w.cell? pr = some (.pointer p)) :
    CallsD Try.prog 115 #[.pointer (some pr), .pointer (some pn)] .returning w fun e u' w' => e = .returned (.tuple #[]) ∧ u' = .returning ∧ w' = w.drew := by
  refine callsD_of_wpS Try.func115 rfl fun c₀ cs hu => ?_
  apply wpS_seq
  apply wpS_region_draw
  intro t
  generalize hl : Region.schedule _ _ t = l
  have hs : l = [0, 1, 2] ∨ l = [1, 0, 2] := by
    subst hl
    have hm : Try.prog.follows .mixedOrders = true := by kernel_rfl
    rcases Nat.mod_two_eq_zero_or_one t with h | h <;> simp [Region.schedule, hm, Region.linearise, Region.linearise.go, h, List.range, List.range.loop, Region.binds, Nat.mod_one]
  clear hl
  rcases hs with rfl | rfl <;>
  · simp [wpOpsS, go_sem, recoverD, hu, hr, Try.ntmps115, Exit.thenS]
    refine (stop_nil _ _).mono ?_
    rintro e w' ⟨rfl, rfl⟩
    refine wpS_cond (t := false) (by simp [Act.eval, Array.replicate]) ?_
    simp only [Bool.false_eq_true, if_false]
    refine wpS_of_wp (wp_skip ?_)
    cases c₀
    simp_all [bodyPostS, results, Try.results115]
set_option maxRecDepth 100000 in
theorem catch_string (pr pn : Addr) (b : Nat) (x : Int) (u un : Value) (older : List PanicEntry) (w : World) (hr : w.cell? pr = some (.pointer (some ⟨b, 0, none⟩)))
    (hc : w.cell? ⟨b, 2, none⟩ = some u) (hz : w.frozen? ⟨b, 2, none⟩ = false) (hn : w.cell? pn = some un) (hnz : w.frozen? pn = false) (hb : pn.block ≠ b) :
    CallsD Try.prog 115 #[.pointer (some pr), .pointer (some pn)] (.panicking ({ v := faultV x, recovered := false } :: older)) w fun e u' w' =>
      e = .returned (.tuple #[]) ∧ u' = .panicking ({ v := faultV x, recovered := true } :: older) ∧ Caught b x pn (.slice none 0 0) w.drew w' := by
  refine callsD_of_wpS Try.func115 rfl fun c₀ cs hu => ?_
  have hc' : w.drew.cell? ⟨b, 2, none⟩ = some u := hc
  have hz' : w.drew.frozen? ⟨b, 2, none⟩ = false := hz
  apply wpS_seq
  apply wpS_region_draw
  intro t
  generalize hl : Region.schedule _ _ t = l
  have hs : l = [0, 1, 2] ∨ l = [1, 0, 2] := by
    subst hl
    have hm : Try.prog.follows .mixedOrders = true := by kernel_rfl
    rcases Nat.mod_two_eq_zero_or_one t with h | h <;> simp [Region.schedule, hm, Region.linearise, Region.linearise.go, h, List.range, List.range.loop, Region.binds, Nat.mod_one]
  clear hl
  rcases hs with rfl | rfl <;>
  · simp [wpOpsS, go_sem, recoverD, hu, hr, faultV, Try.ntmps115, Exit.thenS]
    refine (stop_fault b x u _ hc' hz').mono ?_
    rintro e w1 ⟨rfl, hU⟩
    have hn1 : w1.cell? pn = some un := hU.but.cell hn hb
    have hnz1 : w1.frozen? pn = false := (hU.but.frozen (block_lt_of_cell hn) hb).trans hnz
    refine wpS_cond (t := true) (by simp [Act.eval, Array.replicate]) ?_
    simp only [if_true]
    apply wpS_region
    simp [wpOpsS, go_sem, hn1, hnz1, bodyPostS, results, Try.results115]
    exact ⟨⟨_, hU, rfl⟩⟩
set_option maxRecDepth 100000 in
theorem catch_none_string (pr pn : Addr) (x : Int) (un : Value) (older : List PanicEntry) (w : World) (hr : w.cell? pr = some (.pointer none))
    (hn : w.cell? pn = some un) (hnz : w.frozen? pn = false) :
    CallsD Try.prog 115 #[.pointer (some pr), .pointer (some pn)] (.panicking ({ v := faultV x, recovered := false } :: older)) w fun e u' w' =>
      e = .returned (.tuple #[]) ∧ u' = .panicking ({ v := faultV x, recovered := true } :: older) ∧ ∃ w1, Below w.heap.size w.drew w1 ∧ w' = w1.setCell pn (.slice none 0 0) := by
  refine callsD_of_wpS Try.func115 rfl fun c₀ cs hu => ?_
  apply wpS_seq
  apply wpS_region_draw
  intro t
  generalize hl : Region.schedule _ _ t = l
  have hs : l = [0, 1, 2] ∨ l = [1, 0, 2] := by
    subst hl
    have hm : Try.prog.follows .mixedOrders = true := by kernel_rfl
    rcases Nat.mod_two_eq_zero_or_one t with h | h <;> simp [Region.schedule, hm, Region.linearise, Region.linearise.go, h, List.range, List.range.loop, Region.binds, Nat.mod_one]
  clear hl
  rcases hs with rfl | rfl <;>
  · simp [wpOpsS, go_sem, recoverD, hu, hr, faultV, Try.ntmps115, Exit.thenS]
    refine (stop_none x _).mono ?_
    rintro e w1 ⟨rfl, hU⟩
    have hn1 : w1.cell? pn = some un := (hU.cell (block_lt_of_cell hn)).trans hn
    have hnz1 : w1.frozen? pn = false := (hU.frozen (block_lt_of_cell hn)).trans hnz
    refine wpS_cond (t := true) (by simp [Act.eval, Array.replicate]) ?_
    simp only [if_true]
    apply wpS_region
    simp [wpOpsS, go_sem, hn1, hnz1, bodyPostS, results, Try.results115]
    exact ⟨_, hU, rfl⟩
end Go.Proofs.Ytmkljmljbbijeaa

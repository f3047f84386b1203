/- The walk of the program's reading of heads. -/
import Derived.Test.YtfadpjljokpenaaFrameHead
import Derived.Test.YtfadpjljokpenaaFrameRead
import Derived.Laws.BytesArg
import Derived.Test.YtfadpjljokpenaaMixed
namespace Go.Proofs.Ytfadpjljokpenaa
open Go.RowKit

/-- What reading a head answers, as values. -/
def ReadHeadB (w : World) (r : Hd) (e : Ending) (w' : World) : Prop :=
  e = .returned (.tuple #[.agg #[.int .i64 (bv r.num), .int .i64 (bv r.base), .int .u32 (bv r.seed)], .int .u32 (bv r.sum), .int .i64 r.err]) ∧ Below w.heap.size w w'
/-- The answer's box. -/
structure HBox (w w' : World) : Prop where
  a0 : w'.cell? ⟨w.heap.size, 0, none⟩ = some (.int .i64 0)
  a1 : w'.cell? ⟨w.heap.size, 1, none⟩ = some (.int .i64 0)
  a2 : w'.cell? ⟨w.heap.size, 2, none⟩ = some (.int .u32 0)
  fa : ∀ i, w'.frozen? ⟨w.heap.size, i, none⟩ = false
  below : Below w.heap.size w w'
  size : w.heap.size + 1 ≤ w'.heap.size
theorem hbox_new (w : World) : HBox w (w.alloc (.cells #[.int .i64 0, .int .i64 0, .int .u32 0] 50)) := by
  have h1 := heap_alloc_new w (.cells #[.int .i64 0, .int .i64 0, .int .u32 0] 50)
  refine ⟨cell_of_row _ _ 0 _ _ _ h1, cell_of_row _ _ 1 _ _ _ h1, cell_of_row _ _ 2 _ _ _ h1, fun i => frozen_of_row _ _ i _ _ h1, below_alloc _ _, ?_⟩
  show _ ≤ (w.heap.push _).size
  rw [Array.size_push]; omega
theorem HBox.on {w w1 w2 : World} (h : HBox w w1) (hb : Below w1.heap.size w1 w2) : HBox w w2 :=
  ⟨cell_keep hb h.a0, cell_keep hb h.a1, cell_keep hb h.a2, fun i => (hb.frozen (p := ⟨w.heap.size, i, none⟩) (by have := h.size; simp only; omega)).trans (h.fa i), below_trans h.below hb, by have := h.size; have := hb.size; omega⟩
theorem HBox.but {w w1 w2 : World} {b : Nat} (h : HBox w w1) (hb : But b w1 w2) (hw : w.heap.size + 1 ≤ b) : HBox w w2 :=
  ⟨hb.cell h.a0 (by simp only; omega), hb.cell h.a1 (by simp only; omega), hb.cell h.a2 (by simp only; omega), fun i => (hb.frozen (a := ⟨w.heap.size, i, none⟩) (by have := h.size; simp only; omega) (by simp only; omega)).trans (h.fa i), hb.below h.below (by omega) (by have := h.size; omega), by have := h.size; have := hb.size; omega⟩
theorem HBox.put {w w1 : World} (h : HBox w w1) (x y z : Value) :
    (((w1.setCell ⟨w.heap.size, 0, none⟩ x).setCell ⟨w.heap.size, 1, none⟩ y).setCell ⟨w.heap.size, 2, none⟩ z).cell? ⟨w.heap.size, 0, none⟩ = some x ∧ (((w1.setCell ⟨w.heap.size, 0, none⟩ x).setCell ⟨w.heap.size, 1, none⟩ y).setCell ⟨w.heap.size, 2, none⟩ z).cell? ⟨w.heap.size, 1, none⟩ = some y ∧ (((w1.setCell ⟨w.heap.size, 0, none⟩ x).setCell ⟨w.heap.size, 1, none⟩ y).setCell ⟨w.heap.size, 2, none⟩ z).cell? ⟨w.heap.size, 2, none⟩ = some z ∧
      Below w.heap.size w (((w1.setCell ⟨w.heap.size, 0, none⟩ x).setCell ⟨w.heap.size, 1, none⟩ y).setCell ⟨w.heap.size, 2, none⟩ z) := by
  have c1 : (w1.setCell ⟨w.heap.size, 0, none⟩ x).cell? ⟨w.heap.size, 1, none⟩ = some (.int .i64 0) := by
    rw [World.cell?_setCell_other _ _ _ _ (by intro e; injection e; omega)]; exact h.a1
  have c2 : ((w1.setCell ⟨w.heap.size, 0, none⟩ x).setCell ⟨w.heap.size, 1, none⟩ y).cell? ⟨w.heap.size, 2, none⟩ = some (.int .u32 0) := by
    rw [World.cell?_setCell_other _ _ _ _ (by intro e; injection e; omega), World.cell?_setCell_other _ _ _ _ (by intro e; injection e; omega)]; exact h.a2
  refine ⟨?_, ?_, World.cell?_setCell_same _ _ _ c2, ((h.below.setCell (p := ⟨w.heap.size, 0, none⟩) (Nat.le_refl _) _).setCell (p := ⟨w.heap.size, 1, none⟩) (Nat.le_refl _) _).setCell (p := ⟨w.heap.size, 2, none⟩) (Nat.le_refl _) _⟩
  · rw [World.cell?_setCell_other _ _ _ _ (by intro e; injection e; omega), World.cell?_setCell_other _ _ _ _ (by intro e; injection e; omega)]
    exact World.cell?_setCell_same _ _ _ h.a0
  · rw [World.cell?_setCell_other _ _ _ _ (by intro e; injection e; omega)]
    exact World.cell?_setCell_same _ _ _ c1
/-- ReadHead's memory. -/
structure FH (w w' : World) (b g : Nat) (xs : List (BitVec 8)) (k : Nat) : Prop where
  box : HBox w w'
  rd : RdAt w' b xs k 0
  ptr : w'.cell? ⟨g, 0, none⟩ = some (.pointer (some ⟨b, 0, none⟩))
  hb : w.heap.size + 1 ≤ b
  ne : g ≠ b
theorem FH.on {w w1 w2 : World} {b g k : Nat} {xs : List (BitVec 8)} (h : FH w w1 b g xs k) (hb : Below w1.heap.size w1 w2) : FH w w2 b g xs k :=
  ⟨h.box.on hb, h.rd.on hb, cell_keep hb h.ptr, h.hb, h.ne⟩
theorem FH.go {w w1 w2 : World} {b g k j : Nat} {xs : List (BitVec 8)} (h : FH w w1 b g xs k) (hb : But b w1 w2) (hr : RdAt w2 b xs j 0) : FH w w2 b g xs j :=
  ⟨h.box.but hb h.hb, hr, hb.cell h.ptr h.ne, h.hb, h.ne⟩
theorem frame_number_any (b : Nat) (bs : List (BitVec 8)) (k : Nat) (w : World) (hR : RdAt w b bs k 0) (hm : bs.length ≤ 140737488355328) (hs : k + 8 ≤ bs.length) (n : BitVec 64) (hn : leB ((bs.drop k).take 8) = n) (t : Bool) (ht : decide (1 ≤ bv n ∧ bv n ≤ 9223372036854775807) = t) :
    Calls Try.prog 68 #[.agg #[.pointer (some ⟨b, 0, none⟩)], .int .i64 9223372036854775807] w fun x w' => ∃ z, x = .returned (.tuple #[.int .i64 z, .bool t]) ∧ (t = true → z = bv n) ∧ NumAt w w' b bs (k + 8) := by
  subst ht
  by_cases h : 1 ≤ bv n ∧ bv n ≤ 9223372036854775807
  · rw [decide_eq_true h]
    exact (frame_number_ok b bs k w hR hm hs _ (by decide) (by decide) n hn h.1 h.2).mono fun _ _ ⟨he, hq⟩ => ⟨_, he, fun _ => rfl, hq⟩
  · rw [decide_eq_false h]
    exact (frame_number_bad b bs k w hR hm hs _ (by decide) (by decide) n hn (by omega)).mono fun _ _ ⟨z, he, hq⟩ => ⟨z, he, (fun h => by cases h), hq⟩
/-- Bytes as a string. -/
def strB (bs : List (BitVec 8)) : ByteArray := strOfNums (bs.map bv)
theorem conv_string (w : World) (gb off cap n : Nat) (xs : List (BitVec 8)) (hb : BytesAt w (some ⟨gb, off, none⟩) xs) (hn : xs.length = n) : (convert 31 9 (.slice (some ⟨gb, off, none⟩) n cap)).run Try.prog w = .ok (.string (strB xs)) w := by
  refine run_convert_bytes_arg w 31 5 Try.underlying31 Try.underlying5 gb off n cap (xs.map bv) (by simpa using hn) (fun i hi => ?_) 9 Try.underlying9
  obtain ⟨b, o, e, hc⟩ := hb i (by omega)
  injection e with e; injection e with e1 e2; subst e1 e2
  rw [hc]
  congr 2
  have hi' : i < xs.length := by omega
  rw [at8_get hi']
  simp [hi']
theorem strB_inj {xs ys : List (BitVec 8)} (h : strB xs = strB ys) : xs = ys := by
  unfold strB at h
  have h2 := congrArg (fun s => s.data.toList) h
  rw [strOfNums_data, strOfNums_data, List.map_map, List.map_map] at h2
  have inj : ∀ a b : BitVec 8, (UInt8.ofNat (bv a).toNat) = (UInt8.ofNat (bv b).toNat) → a = b := fun a b e => by
    have e2 := congrArg UInt8.toNat e
    have h1 := a.isLt
    have h2 := b.isLt
    have ea : (bv a).toNat = a.toNat := rfl
    have eb : (bv b).toNat = b.toNat := rfl
    rw [UInt8.toNat_ofNat', UInt8.toNat_ofNat', ea, eb] at e2
    apply BitVec.eq_of_toNat_eq
    omega
  clear h
  induction xs generalizing ys with
  | nil => cases ys with
    | nil => rfl
    | cons b ys => simp at h2
  | cons a xs ih => cases ys with
    | nil => simp at h2
    | cons b ys =>
      simp only [List.map_cons, Function.comp] at h2
      injection h2 with h3 h4
      rw [inj a b h3, ih h4]
theorem bytes_data {S : ByteArray} (h : S.data.toList = [70, 76, 85, 77, 69, 76, 79, 71]) : S = ⟨#[70, 76, 85, 77, 69, 76, 79, 71]⟩ := by
  obtain ⟨a⟩ := S
  congr 1
  exact Array.toList_inj.1 h
theorem strB_magic : strB magicL = ⟨#[70, 76, 85, 77, 69, 76, 79, 71]⟩ := by decide
theorem crc_sum_n (ao : Option Addr) (bs : List (BitVec 8)) (n cap : Nat) (w : World) (hb : BytesAt w ao bs) (hn : bs.length = n) (hm : n ≤ 140737488351232) :
    Calls Try.prog 70 #[.slice ao n cap] w fun e w' => e = .returned (.int .u32 (bv (Crc.sum bs))) ∧ Below w.heap.size w w' := by
  subst hn; exact crc_sum ao bs cap w hb hm
theorem mid_cut (bs : List (BitVec 8)) (k m : Nat) (h : k + m ≤ 24) : ((((bs.drop 8).take 24).drop k).take m) = (bs.drop (8 + k)).take m := by
  rw [front_cut _ _ _ _ h, List.drop_drop]

set_option maxHeartbeats 4000000 in
set_option maxRecDepth 100000 in
theorem frame_read_head (ao : Option Addr) (bs : List (BitVec 8)) (cap : Nat) (w : World) (hb : BytesAt w ao bs) (hc : bs.length ≤ cap) (hm : cap ≤ 9223372036854775807) :
    Calls Try.prog 30 #[.slice ao bs.length cap] w (ReadHeadB w (rH bs)) := by
  by_cases h0 : bs.length < 32
  · have E : Hid (rH bs = Hd.bad 2) := Lib.hid (by unfold rH; rw [if_pos h0])
    have X := Lib.hid (hbox_new w)
    clear hb
    go_enter Try.func30, Try.ntmps30
    go_wp2_with fail
    refine bodyPost_ret (results_head2 rfl _ _ w.heap.size _ _ _ rfl X.out.a0 X.out.a1 X.out.a2) rfl ?_
    rw [E.out]
    exact ⟨rfl, X.out.below⟩
  · obtain ⟨gb, off, rfl, -⟩ := hb 0 (by omega)
    have HB0 := Lib.hid hb
    have X := Lib.hid (hbox_new w)
    have HL : Hid (((bs.drop 8).take 24).length = 24) := Lib.hid (by simp; omega)
    obtain ⟨x, hx⟩ : ∃ x : BitVec 64, leB ((bs.drop 8).take 8) = x := ⟨_, rfl⟩
    obtain ⟨y, hy⟩ : ∃ y : BitVec 64, leB ((bs.drop 16).take 8) = y := ⟨_, rfl⟩
    obtain ⟨s, hs⟩ : ∃ s : BitVec 32, (leB ((bs.drop 24).take 4)).setWidth 32 = s := ⟨_, rfl⟩
    obtain ⟨M, hM⟩ : ∃ M : Nat, leN ((bs.drop 28).take 4) = M := ⟨_, rfl⟩
    have HX := Lib.hid hx
    have HY := Lib.hid hy
    have HSS := Lib.hid hs
    have HMm := Lib.hid hM
    have OX : Hid (okN ((bs.drop 8).take 8) ↔ 1 ≤ bv x ∧ bv x ≤ 9223372036854775807) := Lib.hid (by unfold okN bv; rw [← hx, leB_lt (by simp; omega)]; omega)
    have OY : Hid (okN ((bs.drop 16).take 8) ↔ 1 ≤ bv y ∧ bv y ≤ 9223372036854775807) := Lib.hid (by unfold okN bv; rw [← hy, leB_lt (by simp; omega)]; omega)
    obtain ⟨t1, ht1⟩ : ∃ t, decide (1 ≤ bv x ∧ bv x ≤ 9223372036854775807) = t := ⟨_, rfl⟩
    obtain ⟨t2, ht2⟩ : ∃ t, decide (1 ≤ bv y ∧ bv y ≤ 9223372036854775807) = t := ⟨_, rfl⟩
    have T1 := Lib.hid ht1
    have T2 := Lib.hid ht2
    have k8 : ¬ cap = 8 := by omega
    clear hb hx hy hs hM ht1 ht2
    go_enter Try.func30, Try.ntmps30
    go_wp2_with fail
    refine (new_reader_n (some ⟨gb, off + 8, none⟩) ((bs.drop 8).take 24) _ _ _ ((HB0.out.sub 8 24).below X.out.below) HL.out (fun h => nomatch h) (by omega)).mono ?_
    rintro e w1 ⟨b, rfl, hbb, hR, hb1⟩
    have F1 := Lib.hid (show FH w (w1.alloc (.cells #[.pointer (some ⟨b, 0, none⟩)] 107)) b w1.heap.size ((bs.drop 8).take 24) 0 from
      ⟨(X.out.on hb1).on (below_alloc _ _), hR.on (below_alloc _ _), cell_of_row _ _ 0 _ _ _ (heap_alloc_new w1 _), Nat.le_trans X.out.size hbb, by have := hR.lt; omega⟩)
    clear hR hb1 hbb X
    have p1 := F1.out.ptr
    go_wp2_with fail
    refine (frame_number_any b _ 0 _ F1.out.rd (by rw [HL.out]; omega) (by rw [HL.out]; omega) x (by rw [mid_cut _ _ _ (by omega)]; exact HX.out) t1 T1.out).mono ?_
    rintro e w2 ⟨z1, rfl, hz1, hu⟩
    have Z1 := Lib.hid hz1
    have F2 := Lib.hid (F1.out.go hu.but hu.rd)
    clear hu hz1 p1
    have p2 := F2.out.ptr
    go_wp2_with fail
    refine (frame_number_any b _ 8 _ F2.out.rd (by rw [HL.out]; omega) (by rw [HL.out]; omega) y (by rw [mid_cut _ _ _ (by omega)]; exact HY.out) t2 T2.out).mono ?_
    rintro e w3 ⟨z2, rfl, hz2, hu⟩
    have Z2 := Lib.hid hz2
    have F3 := Lib.hid (F2.out.go hu.but hu.rd)
    clear hu hz2 p2
    have kcs := conv_string w3 gb off cap 8 (bs.take 8) ((HB0.out.take 8).below F3.out.box.below) (by simp; omega)
    by_cases hmg : bs.take 8 = magicL
    · rw [hmg, strB_magic] at kcs
      cases t1 with
      | false =>
        have E : Hid (rH bs = Hd.bad 4) := Lib.hid (by
          unfold rH; rw [if_neg h0, if_pos]
          exact .inr (.inl (fun h => absurd (OX.out.1 h) (of_decide_eq_false T1.out))))
        have a0 := F3.out.box.a0
        have a1 := F3.out.box.a1
        have a2 := F3.out.box.a2
        have fa0 := F3.out.box.fa 0
        have fa1 := F3.out.box.fa 1
        have fa2 := F3.out.box.fa 2
        go_wp2_with fail
        refine bodyPost_ret (results_head2 rfl _ _ w.heap.size (.int .i64 0) (.int .i64 0) (.int .u32 0) rfl (F3.out.box.put _ _ _).1 (F3.out.box.put _ _ _).2.1 (F3.out.box.put _ _ _).2.2.1) rfl ?_
        rw [E.out]
        exact ⟨rfl, (F3.out.box.put _ _ _).2.2.2⟩
      | true =>
        cases t2 with
        | false =>
          have E : Hid (rH bs = Hd.bad 4) := Lib.hid (by
            unfold rH; rw [if_neg h0, if_pos]
            exact .inr (.inr (fun h => absurd (OY.out.1 h) (of_decide_eq_false T2.out))))
          have a0 := F3.out.box.a0
          have a1 := F3.out.box.a1
          have a2 := F3.out.box.a2
          have fa0 := F3.out.box.fa 0
          have fa1 := F3.out.box.fa 1
          have fa2 := F3.out.box.fa 2
          go_wp2_with fail
          refine bodyPost_ret (results_head2 rfl _ _ w.heap.size (.int .i64 0) (.int .i64 0) (.int .u32 0) rfl (F3.out.box.put _ _ _).1 (F3.out.box.put _ _ _).2.1 (F3.out.box.put _ _ _).2.2.1) rfl ?_
          rw [E.out]
          exact ⟨rfl, (F3.out.box.put _ _ _).2.2.2⟩
        | true =>
          have NB : Hid (¬ (bs.take 8 ≠ magicL ∨ ¬ okN ((bs.drop 8).take 8) ∨ ¬ okN ((bs.drop 16).take 8))) := Lib.hid (by
            intro h
            rcases h with h | h | h
            · exact h hmg
            · exact h (OX.out.2 (of_decide_eq_true T1.out))
            · exact h (OY.out.2 (of_decide_eq_true T2.out)))
          obtain rfl : z1 = bv x := Z1.out rfl
          obtain rfl : z2 = bv y := Z2.out rfl
          have p3 := F3.out.ptr
          clear hmg Z1 Z2 OX OY T1 T2
          go_wp2_with fail
          refine (fixed32_ok b _ 16 _ F3.out.rd (by rw [HL.out]; omega) (by rw [HL.out]; omega)).mono ?_
          rintro e w4 ⟨rfl, hu⟩
          have F4 := Lib.hid (F3.out.go hu.but (F3.out.rd.moved 20 (by rw [HL.out]; omega) hu))
          rw [mid_cut _ _ _ (by omega), HSS.out]
          clear hu p3 kcs
          go_wp2_with fail
          have hA := below_alloc w4 (.cells #[.int .i64 (bv x), .int .i64 (bv y), .int .u32 (bv s)] 50)
          have F5 := Lib.hid (F4.out.on hA)
          have HH := Lib.hid (headBox_new w4 (bv x) (bv y) s)
          clear hA
          refine (crc_sum_n (some ⟨gb, off, none⟩) (bs.take 28) 28 cap _ ((HB0.out.take 28).below F5.out.box.below) (by simp; omega) (by omega)).mono ?_
          rintro e w5 ⟨rfl, hb⟩
          have F6 := Lib.hid (F5.out.on hb)
          have H6 := Lib.hid (HH.out.on hb)
          have p6 := F6.out.ptr
          clear hb HH
          go_wp2_with fail
          refine (fixed32_nat b _ 20 _ F6.out.rd (by rw [HL.out]; omega) (by rw [HL.out]; omega) M (by rw [mid_cut _ _ _ (by omega)]; exact HMm.out)).mono ?_
          rintro e w6 ⟨rfl, hu⟩
          have F7 := Lib.hid (F6.out.go hu.but (F6.out.rd.moved 24 (by rw [HL.out]; omega) hu))
          have NE : w4.heap.size ≠ b := by have := F4.out.rd.lt; omega
          have d0 := hu.but.cell H6.out.c0 (show w4.heap.size ≠ b from NE)
          have d1 := hu.but.cell H6.out.c1 (show w4.heap.size ≠ b from NE)
          have d2 := hu.but.cell H6.out.c2 (show w4.heap.size ≠ b from NE)
          clear hu p6 NE
          go_wp2_with fail
          refine (crc_mask _ _).mono ?_
          rintro e w7 ⟨rfl, rfl⟩
          by_cases hQ : M = (Crc.mask (Crc.sum (bs.take 28))).toNat
          · have E : Hid (rH bs = ⟨x, y, s, Crc.sum (bs.take 28), 0⟩) := Lib.hid (by
              unfold rH; rw [if_neg h0, if_neg NB.out, HMm.out, HX.out, HY.out, HSS.out, if_neg (fun h => h hQ)])
            have t : ((M : Int) != bv (Crc.mask (Crc.sum (bs.take 28)))) = false := by rw [hQ]; unfold bv; simp
            clear hQ
            have a0 := F7.out.box.a0
            have a1 := F7.out.box.a1
            have a2 := F7.out.box.a2
            have fa0 := F7.out.box.fa 0
            have fa1 := F7.out.box.fa 1
            have fa2 := F7.out.box.fa 2
            go_wp2_with fail
            refine bodyPost_ret (results_head2 rfl _ _ w.heap.size (.int .i64 (bv x)) (.int .i64 (bv y)) (.int .u32 (bv s)) rfl (F7.out.box.put _ _ _).1 (F7.out.box.put _ _ _).2.1 (F7.out.box.put _ _ _).2.2.1) rfl ?_
            rw [E.out]
            exact ⟨rfl, (F7.out.box.put _ _ _).2.2.2⟩
          · have E : Hid (rH bs = Hd.bad 5) := Lib.hid (by
              unfold rH; rw [if_neg h0, if_neg NB.out, HMm.out, if_pos hQ])
            have t : ((M : Int) != bv (Crc.mask (Crc.sum (bs.take 28)))) = true := by unfold bv; simp; omega
            clear hQ
            have a0 := F7.out.box.a0
            have a1 := F7.out.box.a1
            have a2 := F7.out.box.a2
            have fa0 := F7.out.box.fa 0
            have fa1 := F7.out.box.fa 1
            have fa2 := F7.out.box.fa 2
            go_wp2_with fail
            refine bodyPost_ret (results_head2 rfl _ _ w.heap.size (.int .i64 0) (.int .i64 0) (.int .u32 0) rfl (F7.out.box.put _ _ _).1 (F7.out.box.put _ _ _).2.1 (F7.out.box.put _ _ _).2.2.1) rfl ?_
            rw [E.out]
            exact ⟨rfl, (F7.out.box.put _ _ _).2.2.2⟩
    · obtain ⟨S, hS⟩ : ∃ S, strB (bs.take 8) = S := ⟨_, rfl⟩
      have hne : ¬ S = ⟨#[70, 76, 85, 77, 69, 76, 79, 71]⟩ := fun h => hmg (strB_inj (by rw [hS, h, strB_magic]))
      have E : Hid (rH bs = Hd.bad 4) := Lib.hid (by unfold rH; rw [if_neg h0, if_pos (.inl hmg)])
      have hne' : ¬ S.toList = [70, 76, 85, 77, 69, 76, 79, 71] := fun h => by
        rw [ByteArray.toList_eq] at h
        refine hne (bytes_data h)
      rw [hS] at kcs
      clear hS hne
      have a0 := F3.out.box.a0
      have a1 := F3.out.box.a1
      have a2 := F3.out.box.a2
      have fa0 := F3.out.box.fa 0
      have fa1 := F3.out.box.fa 1
      have fa2 := F3.out.box.fa 2
      go_wp2_with fail
      refine bodyPost_ret (results_head2 rfl _ _ w.heap.size (.int .i64 0) (.int .i64 0) (.int .u32 0) rfl (F3.out.box.put _ _ _).1 (F3.out.box.put _ _ _).2.1 (F3.out.box.put _ _ _).2.2.1) rfl ?_
      rw [E.out]
      exact ⟨rfl, (F3.out.box.put _ _ _).2.2.2⟩
end Go.Proofs.Ytfadpjljokpenaa

/-! The walk of the document's reading of heads. -/
namespace Go.Proofs.Ytfadpjljokpenaa
open Go.RowKit

theorem ref_sum_n (ao : Option Addr) (bs : List (BitVec 8)) (n cap : Nat) (w : World) (hb : BytesAt w ao bs) (hn : bs.length = n) (hm : n ≤ 140737488351232) :
    Calls Try.prog 72 #[.slice ao n cap] w fun e w' => e = .returned (.int .u32 (bv (Crc.sum bs))) ∧ w = w' := by
  subst hn; exact ref_sum ao bs cap w hb hm

set_option maxHeartbeats 4000000 in
set_option maxRecDepth 100000 in
theorem ref_read_head (ao : Option Addr) (bs : List (BitVec 8)) (cap : Nat) (w : World) (hb : BytesAt w ao bs) (hc : bs.length ≤ cap) (hm : cap ≤ 9223372036854775807) :
    Calls Try.prog 31 #[.slice ao bs.length cap] w (ReadHeadB w (rH bs)) := by
  by_cases h0 : bs.length < 32
  · have E : Hid (rH bs = Hd.bad 2) := Lib.hid (by unfold rH; rw [if_pos h0])
    have X := Lib.hid (hbox_new w)
    clear hb
    go_enter Try.func31, Try.ntmps31
    go_wp2_with fail
    refine bodyPost_ret (results_head2 rfl _ _ w.heap.size _ _ _ rfl X.out.a0 X.out.a1 X.out.a2) rfl ?_
    rw [E.out]
    exact ⟨rfl, X.out.below⟩
  · obtain ⟨gb, off, rfl, -⟩ := hb 0 (by omega)
    have HB := Lib.hid hb
    obtain ⟨wa, hwa⟩ : ∃ wa, w.alloc (.cells #[.int .i64 0, .int .i64 0, .int .u32 0] 50) = wa := ⟨_, rfl⟩
    have X := Lib.hid (hwa ▸ hbox_new w)
    have Y := Lib.hid ((hbox_new wa).on (below_drew _))
    have RB := Lib.hid ((hb.below X.out.below).below (below_trans (below_alloc wa (.cells #[.int .i64 0, .int .i64 0, .int .u32 0] 50)) (below_drew _)))
    obtain ⟨x, hx⟩ : ∃ x : BitVec 64, leB ((bs.drop 8).take 8) = x := ⟨_, rfl⟩
    obtain ⟨y, hy⟩ : ∃ y : BitVec 64, leB ((bs.drop 16).take 8) = y := ⟨_, rfl⟩
    obtain ⟨q, hq⟩ : ∃ q : BitVec 64, leB ((bs.drop 24).take 4) = q := ⟨_, rfl⟩
    obtain ⟨M, hM⟩ : ∃ M : Nat, leN ((bs.drop 28).take 4) = M := ⟨_, rfl⟩
    obtain ⟨s, hs⟩ : ∃ s : BitVec 32, q.setWidth 32 = s := ⟨_, rfl⟩
    obtain ⟨z1, hz1⟩ : ∃ z, IntKind.i64.wrap (bv x) = z := ⟨_, rfl⟩
    obtain ⟨z2, hz2⟩ : ∃ z, IntKind.i64.wrap (bv y) = z := ⟨_, rfl⟩
    have HX := Lib.hid hx
    have HY := Lib.hid hy
    have HQ := Lib.hid hq
    have HSS := Lib.hid hs
    have HMm := Lib.hid hM
    have RX := Lib.hid (show 0 ≤ bv x ∧ bv x < 18446744073709551616 from bv_range x)
    have RY := Lib.hid (show 0 ≤ bv y ∧ bv y < 18446744073709551616 from bv_range y)
    have OX : Hid (okN ((bs.drop 8).take 8) ↔ 1 ≤ bv x ∧ bv x ≤ 9223372036854775807) := Lib.hid (by unfold okN bv; rw [← hx, leB_lt (by simp; omega)]; omega)
    have OY : Hid (okN ((bs.drop 16).take 8) ↔ 1 ≤ bv y ∧ bv y ≤ 9223372036854775807) := Lib.hid (by unfold okN bv; rw [← hy, leB_lt (by simp; omega)]; omega)
    have Z1 : Hid (z1 = if bv x ≤ 9223372036854775807 then bv x else bv x - 18446744073709551616) := Lib.hid (by have := RX.out; rw [← hz1, IntKind.wrap_i64]; split <;> omega)
    have Z2 : Hid (z2 = if bv y ≤ 9223372036854775807 then bv y else bv y - 18446744073709551616) := Lib.hid (by have := RY.out; rw [← hz2, IntKind.wrap_i64]; split <;> omega)
    have k8 : ¬ cap = 8 := by omega
    have k16 : ¬ cap = 16 := by omega
    have k24 : ¬ cap = 24 := by omega
    have k28 : ¬ cap = 28 := by omega
    clear hb hx hy hq hM
    go_enter Try.func31, Try.ntmps31
    go_wp2_with fail
    refine wp_region_mixed_still [13, 17, 21, 23] [0, 1, 2, 3, 4, 5, 6, 7, 8, 9, 10, 11, 12, 13, 14] (fun w' => BytesAt w' (some ⟨gb, off, none⟩) bs) (by kernel_rfl) (by kernel_rfl) (by intro c a d v w h; cases d <;> exact h) ((HB.out.below X.out.below).below (below_drew _)) ?_
    intro hne
    simp only [pick, List.map_cons, List.map_nil, List.getD_cons_zero, List.getD_cons_succ]
    refine wpMixS_reads 2 _ (by kernel_rfl) ?_
    simp only [List.take_succ_cons, List.take_zero, List.drop_succ_cons, List.drop_zero]
    repeat (go_big_quiet_step (fail))
    refine wpQuiet_nil ?_
    refine wpMixS_call rfl rfl (.int .u64 (bv x)) 69 #[.slice (some ⟨gb, off + 8, none⟩) 8 (cap - 8)] (by intro w; simp [go_sem]) (fun w1 hw1 => by
      obtain ⟨p, rfl⟩ := hw1
      exact ref_number_bv _ ((bs.drop 8).take 8) _ _ _ (p.h.sub 8 8) (by simp; omega) (by omega) x HX.out) ?_
    simp only [Act.put, List.setIfInBounds_toArray, List.set_cons_succ, List.set_cons_zero]
    refine wpMixS_reads 3 _ (by kernel_rfl) ?_
    simp only [List.take_succ_cons, List.take_zero, List.drop_succ_cons, List.drop_zero]
    repeat (go_big_quiet_step (fail))
    refine wpQuiet_nil ?_
    refine wpMixS_call rfl rfl (.int .u64 (bv y)) 69 #[.slice (some ⟨gb, off + 16, none⟩) 8 (cap - 16)] (by intro w; simp [go_sem]) (fun w1 hw1 => by
      obtain ⟨p, rfl⟩ := hw1
      exact ref_number_bv _ ((bs.drop 16).take 8) _ _ _ (p.h.sub 16 8) (by simp; omega) (by omega) y HY.out) ?_
    simp only [Act.put, List.setIfInBounds_toArray, List.set_cons_succ, List.set_cons_zero]
    refine wpMixS_reads 3 _ (by kernel_rfl) ?_
    simp only [List.take_succ_cons, List.take_zero, List.drop_succ_cons, List.drop_zero]
    repeat (go_big_quiet_step (fail))
    refine wpQuiet_nil ?_
    refine wpMixS_call rfl rfl (.int .u64 (bv q)) 69 #[.slice (some ⟨gb, off + 24, none⟩) 4 (cap - 24)] (by intro w; simp [go_sem]) (fun w1 hw1 => by
      obtain ⟨p, rfl⟩ := hw1
      exact ref_number_bv _ ((bs.drop 24).take 4) _ _ _ (p.h.sub 24 4) (by simp; omega) (by omega) q HQ.out) ?_
    simp only [Act.put, List.setIfInBounds_toArray, List.set_cons_succ, List.set_cons_zero]
    refine wpMixS_reads 1 _ (by kernel_rfl) ?_
    simp only [List.take_succ_cons, List.take_zero, List.drop_succ_cons, List.drop_zero]
    repeat (go_big_quiet_step (fail))
    refine wpQuiet_nil ?_
    refine wpMixS_value rfl rfl (.agg #[.int .i64 z1, .int .i64 z2, .int .u32 (bv s)]) (by intro w; simp [go_sem]) ?_
    simp only [Act.put, List.setIfInBounds_toArray, List.set_cons_succ, List.set_cons_zero]
    refine wpMixS_act rfl ?_ rfl
    go_wp2_with fail
    refine ⟨⟨⟨_, RB.out⟩, rfl⟩, ?_⟩
    have a0 := Y.out.a0
    have a1 := Y.out.a1
    have a2 := Y.out.a2
    have fa0 := Y.out.fa 0
    have fa1 := Y.out.fa 1
    have fa2 := Y.out.fa 2
    refine wpMixS_act rfl ?_ rfl
    go_wp2_with fail
    clear a0 a1 a2 fa0 fa1 fa2
    have XC := Lib.hid (X.out.on (below_trans (below_alloc wa (.cells #[.int .i64 z1, .int .i64 z2, .int .u32 (bv s)] 50)) (below_drew _)))
    have HH := Lib.hid ((headBox_new wa z1 z2 s).on (below_drew _))
    obtain ⟨wc, hwc⟩ : ∃ wc, (wa.alloc (.cells #[.int .i64 z1, .int .i64 z2, .int .u32 (bv s)] 50)).drew = wc := ⟨_, rfl⟩
    rw [hwc] at XC HH
    have d0 := HH.out.c0
    have d1 := HH.out.c1
    have d2 := HH.out.c2
    clear hne Y
    refine ⟨⟨⟨wc, HB.out.below XC.out.below⟩, hwc⟩, ?_⟩
    rw [hwc]
    clear hwc
    refine wpMixS_nil ?_
    have kcs := conv_string wc gb off cap 8 (bs.take 8) ((HB.out.take 8).below XC.out.below) (by simp; omega)
    by_cases hmg : bs.take 8 = magicL
    · rw [hmg, strB_magic] at kcs
      by_cases h1 : z1 < 1
      · have E : Hid (rH bs = Hd.bad 4) := Lib.hid (by
          unfold rH; rw [if_neg h0, if_pos]
          exact .inr (.inl (fun h => by have h := OX.out.1 h; have hz := Z1.out; rw [if_pos h.2] at hz; omega)))
        have a0 := XC.out.a0
        have a1 := XC.out.a1
        have a2 := XC.out.a2
        have fa0 := XC.out.fa 0
        have fa1 := XC.out.fa 1
        have fa2 := XC.out.fa 2
        go_wp2_with fail
        refine bodyPost_ret (results_head2 rfl _ _ w.heap.size (.int .i64 0) (.int .i64 0) (.int .u32 0) rfl (XC.out.put _ _ _).1 (XC.out.put _ _ _).2.1 (XC.out.put _ _ _).2.2.1) rfl ?_
        rw [E.out]
        exact ⟨rfl, (XC.out.put _ _ _).2.2.2⟩
      by_cases h2 : z2 < 1
      · have E : Hid (rH bs = Hd.bad 4) := Lib.hid (by
          unfold rH; rw [if_neg h0, if_pos]
          exact .inr (.inr (fun h => by have h := OY.out.1 h; have hz := Z2.out; rw [if_pos h.2] at hz; omega)))
        have a0 := XC.out.a0
        have a1 := XC.out.a1
        have a2 := XC.out.a2
        have fa0 := XC.out.fa 0
        have fa1 := XC.out.fa 1
        have fa2 := XC.out.fa 2
        go_wp2_with fail
        refine bodyPost_ret (results_head2 rfl _ _ w.heap.size (.int .i64 0) (.int .i64 0) (.int .u32 0) rfl (XC.out.put _ _ _).1 (XC.out.put _ _ _).2.1 (XC.out.put _ _ _).2.2.1) rfl ?_
        rw [E.out]
        exact ⟨rfl, (XC.out.put _ _ _).2.2.2⟩
      · have NB : Hid (¬ (bs.take 8 ≠ magicL ∨ ¬ okN ((bs.drop 8).take 8) ∨ ¬ okN ((bs.drop 16).take 8))) := Lib.hid (by
          have hz := Z1.out
          have hy := Z2.out
          have := RX.out
          have := RY.out
          intro h
          rcases h with h | h | h
          · exact h hmg
          · refine h (OX.out.2 ?_)
            split at hz <;> omega
          · refine h (OY.out.2 ?_)
            split at hy <;> omega)
        have e1 : z1 = bv x := by
          have hz := Z1.out
          have := RX.out
          split at hz <;> omega
        have e2 : z2 = bv y := by
          have hz := Z2.out
          have := RY.out
          split at hz <;> omega
        clear hmg Z1 Z2 OX OY hz1 hz2
        subst e1 e2
        go_wp2_with fail
        refine (ref_sum_n (some ⟨gb, off, none⟩) (bs.take 28) 28 cap _ ((HB.out.take 28).below XC.out.below) (by simp; omega) (by omega)).mono ?_
        rintro e w5 ⟨rfl, rfl⟩
        clear kcs
        go_wp2_with fail
        have HC := Lib.hid (HB.out.below XC.out.below)
        have L28 : Hid (((bs.drop 28).take 4).length = 4) := Lib.hid (by simp; omega)
        by_cases hQ : M = (Crc.mask (Crc.sum (bs.take 28))).toNat
        · have E : Hid (rH bs = ⟨x, y, s, Crc.sum (bs.take 28), 0⟩) := Lib.hid (by
            unfold rH; rw [if_neg h0, if_neg NB.out, HMm.out, HX.out, HY.out, HQ.out, HSS.out, if_neg (fun h => h hQ)])
          have t : (bv ((Crc.mask (Crc.sum (bs.take 28))).setWidth 64) != (M : Int)) = false := by rw [hQ]; unfold bv; simp [BitVec.toNat_setWidth]; omega
          clear hQ
          go_quiet (first
            | (go_at_call 66; exact (ref_mask _ _).mono fun _ _ ⟨he, hw⟩ => ⟨he, _, hw.symm⟩)
            | (go_at_call 69; exact (ref_number_nat _ ((bs.drop 28).take 4) _ _ _ ((HC.out.drewN _).sub 28 4) L28.out (by omega) M HMm.out).mono fun _ _ ⟨he, hw⟩ => ⟨he, _, hw.symm⟩))
          have XD := Lib.hid (XC.out.on (below_drewN wc nq))
          have HD := Lib.hid (HH.out.on (below_drewN wc nq))
          clear d0 d1 d2
          obtain ⟨wd, hwd⟩ : ∃ wd, wc.drewN nq = wd := ⟨_, rfl⟩
          rw [hwd] at XD HD
          rw [hwd]
          clear hwd
          have d0 := HD.out.c0
          have d1 := HD.out.c1
          have d2 := HD.out.c2
          have a0 := XD.out.a0
          have a1 := XD.out.a1
          have a2 := XD.out.a2
          have fa0 := XD.out.fa 0
          have fa1 := XD.out.fa 1
          have fa2 := XD.out.fa 2
          go_wp2_with fail
          refine bodyPost_ret (results_head2 rfl _ _ w.heap.size (.int .i64 (bv x)) (.int .i64 (bv y)) (.int .u32 (bv s)) rfl (XD.out.put _ _ _).1 (XD.out.put _ _ _).2.1 (XD.out.put _ _ _).2.2.1) rfl ?_
          rw [E.out]
          exact ⟨rfl, (XD.out.put _ _ _).2.2.2⟩
        · have E : Hid (rH bs = Hd.bad 5) := Lib.hid (by
            unfold rH; rw [if_neg h0, if_neg NB.out, HMm.out, if_pos hQ])
          have t : (bv ((Crc.mask (Crc.sum (bs.take 28))).setWidth 64) != (M : Int)) = true := by unfold bv; have := (Crc.mask (Crc.sum (bs.take 28))).isLt; simp [BitVec.toNat_setWidth]; omega
          clear hQ
          go_quiet (first
            | (go_at_call 66; exact (ref_mask _ _).mono fun _ _ ⟨he, hw⟩ => ⟨he, _, hw.symm⟩)
            | (go_at_call 69; exact (ref_number_nat _ ((bs.drop 28).take 4) _ _ _ ((HC.out.drewN _).sub 28 4) L28.out (by omega) M HMm.out).mono fun _ _ ⟨he, hw⟩ => ⟨he, _, hw.symm⟩))
          have XD := Lib.hid (XC.out.on (below_drewN wc nq))
          have HD := Lib.hid (HH.out.on (below_drewN wc nq))
          clear d0 d1 d2
          obtain ⟨wd, hwd⟩ : ∃ wd, wc.drewN nq = wd := ⟨_, rfl⟩
          rw [hwd] at XD HD
          rw [hwd]
          clear hwd
          have a0 := XD.out.a0
          have a1 := XD.out.a1
          have a2 := XD.out.a2
          have fa0 := XD.out.fa 0
          have fa1 := XD.out.fa 1
          have fa2 := XD.out.fa 2
          go_wp2_with fail
          refine bodyPost_ret (results_head2 rfl _ _ w.heap.size (.int .i64 0) (.int .i64 0) (.int .u32 0) rfl (XD.out.put _ _ _).1 (XD.out.put _ _ _).2.1 (XD.out.put _ _ _).2.2.1) rfl ?_
          rw [E.out]
          exact ⟨rfl, (XD.out.put _ _ _).2.2.2⟩
    · obtain ⟨S, hS⟩ : ∃ S, strB (bs.take 8) = S := ⟨_, rfl⟩
      have hne : ¬ S = ⟨#[70, 76, 85, 77, 69, 76, 79, 71]⟩ := fun h => hmg (strB_inj (by rw [hS, h, strB_magic]))
      have E : Hid (rH bs = Hd.bad 4) := Lib.hid (by unfold rH; rw [if_neg h0, if_pos (.inl hmg)])
      have hne' : ¬ S.toList = [70, 76, 85, 77, 69, 76, 79, 71] := fun h => by
        rw [ByteArray.toList_eq] at h
        refine hne (bytes_data h)
      rw [hS] at kcs
      clear hS hne
      have a0 := XC.out.a0
      have a1 := XC.out.a1
      have a2 := XC.out.a2
      have fa0 := XC.out.fa 0
      have fa1 := XC.out.fa 1
      have fa2 := XC.out.fa 2
      go_wp2_with fail
      refine bodyPost_ret (results_head2 rfl _ _ w.heap.size (.int .i64 0) (.int .i64 0) (.int .u32 0) rfl (XC.out.put _ _ _).1 (XC.out.put _ _ _).2.1 (XC.out.put _ _ _).2.2.1) rfl ?_
      rw [E.out]
      exact ⟨rfl, (XC.out.put _ _ _).2.2.2⟩
end Go.Proofs.Ytfadpjljokpenaa

/- The plain laws of a scan over frames that were written one behind the other. -/
import Derived.Test.YtfadpjljokpenaaPlainScan
import Derived.Maps.AppendAt
import Derived.Test.YtfadpjljokpenaaScanAgain
import Derived.Test.YtfadpjljokpenaaFrameChain
namespace Go.Proofs.Ytfadpjljokpenaa
open Go.RowKit

theorem iterS_mono (bs : List (BitVec 8)) (s : ScV) (i : Nat) : ∀ k, (iterS bs s i).end_ ≤ (iterS bs s (i + k)).end_
  | 0 => Nat.le_refl _
  | k + 1 => by
    have h := iterS_mono bs s i k
    have : (iterS bs s (i + (k + 1))).end_ = (iterS bs s (i + k)).end_ + (rdS bs (iterS bs s (i + k))).n := rfl
    omega
/-- Where the frames end. -/
def endsF (seed : BitVec 32) (Y : Nat) (ds : List (List (BitVec 8))) (j : Nat) : Nat := (framesF seed Y (ds.take j)).length
theorem framesF_len : ∀ (seed : BitVec 32) (Y : Nat) (ds : List (List (BitVec 8))), (∀ d ∈ ds, d.length ≤ 4096) → (framesF seed Y ds).length ≤ ds.length * 4112
  | _, _, [], _ => by simp [framesF]
  | seed, Y, d :: ds, h => by
    have h1 := framesF_len (sumF seed (BitVec.ofNat 64 Y) d) (Y + 1) ds (fun x hx => h x (by simp [hx]))
    have h2 := h d (by simp)
    simp only [framesF, List.length_append, frameF_len, List.length_cons]
    omega
section
variable {ds : List (List (BitVec 8))} {seed : BitVec 32} {Y : Nat} {t : ScV} {y : Int}
theorem run_of (behind : List (BitVec 8)) (h1 : 1 ≤ Y) (h2 : Y + ds.length ≤ 9223372036854775807) (hd : ∀ d ∈ ds, d.length ≤ 4096) :
    (∀ i, i < ds.length → goS (framesF seed Y ds ++ behind) (iterS (framesF seed Y ds ++ behind) ⟨0, 0, (Y : Int), seed⟩ i)) ∧ ∀ i, i ≤ ds.length → iterS (framesF seed Y ds ++ behind) ⟨0, 0, (Y : Int), seed⟩ i = ⟨i, endsF seed Y ds i, (Y : Int) + i, seedsF seed Y (ds.take i)⟩ := by
  have h := front_run ds ⟨0, 0, (Y : Int), seed⟩ Y behind (bs := framesF seed Y ds ++ behind) (by simp) rfl h1 h2 hd
  refine ⟨h.1, fun i hi => ?_⟩
  rw [h.2 i hi]
  simp [endsF]
/-- Whatever lies behind: all of them are told. -/
theorem front_over {behind : List (BitVec 8)} (h1 : 1 ≤ Y) (h2 : Y + ds.length ≤ 9223372036854775807) (hd : ∀ d ∈ ds, d.length ≤ 4096) (hp : OverIs (framesF seed Y ds ++ behind) (Y : Int) seed t y) :
    ds.length ≤ t.count ∧ (framesF seed Y ds).length ≤ t.end_ ∧ t.next = (Y : Int) + t.count ∧ t.next ≤ 9223372036854775807 ∧ t.count ≤ t.end_ ∧ t.end_ ≤ (framesF seed Y ds).length + behind.length := by
  obtain ⟨r1, r2⟩ := run_of (seed := seed) behind h1 h2 hd
  rcases hp with ⟨h, _⟩ | ⟨_, i, hi, rfl, rfl⟩
  · omega
  have hle : ds.length ≤ i := by
    rcases Nat.lt_or_ge i ds.length with h | h
    · exact (hi.2 (r1 i h)).elim
    · exact h
  have hok := iterS_ok (bs := framesF seed Y ds ++ behind) (s := ⟨0, 0, (Y : Int), seed⟩) ⟨Nat.zero_le _, Nat.le_refl _, by dsimp only; omega, by dsimp only; omega⟩ i hi.1
  obtain ⟨c1, c2⟩ := iterS_count (framesF seed Y ds ++ behind) ⟨0, 0, (Y : Int), seed⟩ i
  have e := iterS_mono (framesF seed Y ds ++ behind) ⟨0, 0, (Y : Int), seed⟩ ds.length (i - ds.length)
  rw [show ds.length + (i - ds.length) = i by omega, r2 ds.length (Nat.le_refl _)] at e
  simp only [endsF, List.take_length] at e
  have e1 := hok.le
  rw [List.length_append] at e1
  dsimp only at c1 c2
  exact ⟨by omega, e, by omega, hok.hi, hok.count, e1⟩
/-- The front alone. -/
theorem front_alone (h1 : 1 ≤ Y) (h2 : Y + ds.length ≤ 9223372036854775807) (hd : ∀ d ∈ ds, d.length ≤ 4096) (hp : OverIs (framesF seed Y ds) (Y : Int) seed t y) :
    t.count = ds.length ∧ t.end_ = (framesF seed Y ds).length ∧ t.seed = seedsF seed Y ds ∧ y = 1 := by
  obtain ⟨r1, r2⟩ := run_of (ds := ds) (seed := seed) [] h1 h2 hd
  rw [List.append_nil] at r1 r2
  have r3 := r2 ds.length (Nat.le_refl _)
  have hl : ¬ (iterS (framesF seed Y ds) ⟨0, 0, (Y : Int), seed⟩ ds.length).end_ < (framesF seed Y ds).length := by
    rw [r3]; simp only [endsF, List.take_length]; omega
  have hs : StopsAt (framesF seed Y ds) ⟨0, 0, (Y : Int), seed⟩ ds.length := ⟨r1, fun h => hl h.1⟩
  rcases hp with ⟨h, _⟩ | ⟨_, i, hi, rfl, rfl⟩
  · omega
  · obtain rfl := hi.uniq hs
    refine ⟨by rw [r3], by rw [r3]; simp [endsF], by rw [r3]; simp, ?_⟩
    unfold whyS
    rw [if_neg hl]
    rfl
theorem framesF_split (m : Nat) (hm : m < ds.length) : ∃ rest, framesF seed Y ds = framesF seed Y (ds.take m) ++ (frameF (seedsF seed Y (ds.take m)) (BitVec.ofNat 64 (Y + m)) (nth ds m) ++ rest) := by
  have e : ds = ds.take m ++ nth ds m :: ds.drop (m + 1) := by
    have : nth ds m = ds[m] := by simp [nth, hm]
    rw [this, List.getElem_cons_drop, List.take_append_drop]
  refine ⟨framesF (sumF (seedsF seed Y (ds.take m)) (BitVec.ofNat 64 (Y + m)) (nth ds m)) (Y + m + 1) (ds.drop (m + 1)), ?_⟩
  conv => lhs; rw [e, framesF_append]
  rw [List.length_take, Nat.min_eq_left (by omega)]
  rfl
theorem take_snoc (m : Nat) (hm : m < ds.length) : ds.take (m + 1) = ds.take m ++ [nth ds m] := by
  have : nth ds m = ds[m] := by simp [nth, hm]
  rw [this, List.take_succ_eq_append_getElem hm]
theorem frames_snoc (m : Nat) (hm : m < ds.length) : framesF seed Y (ds.take (m + 1)) = framesF seed Y (ds.take m) ++ frameF (seedsF seed Y (ds.take m)) (BitVec.ofNat 64 (Y + m)) (nth ds m) := by
  rw [take_snoc m hm, framesF_snoc, List.length_take, Nat.min_eq_left (by omega)]
theorem seeds_snoc (m : Nat) (hm : m < ds.length) : seedsF seed Y (ds.take (m + 1)) = sumF (seedsF seed Y (ds.take m)) (BitVec.ofNat 64 (Y + m)) (nth ds m) := by
  rw [take_snoc m hm, seedsF_snoc, List.length_take, Nat.min_eq_left (by omega)]
theorem endsF_succ (m : Nat) (hm : m < ds.length) : endsF seed Y ds (m + 1) = endsF seed Y ds m + (16 + (nth ds m).length) := by
  unfold endsF
  rw [frames_snoc m hm, List.length_append, frameF_len]
/-- As many as stand in a cut of it. -/
theorem cut_front {e m : Nat} (h1 : 1 ≤ Y) (h2 : Y + ds.length ≤ 9223372036854775807) (hd : ∀ d ∈ ds, d.length ≤ 4096) (he : e ≤ (framesF seed Y ds).length) (hm : m ≤ ds.length) (hm1 : endsF seed Y ds m ≤ e) (hm2 : m = ds.length ∨ e < endsF seed Y ds (m + 1))
    (hp : OverIs ((framesF seed Y ds).take e) (Y : Int) seed t y) : t.count = m ∧ t.end_ = endsF seed Y ds m ∧ (y = 1 ↔ e = endsF seed Y ds m) := by
  obtain ⟨r1, r2⟩ := run_of (ds := ds) (seed := seed) [] h1 h2 hd
  rw [List.append_nil] at r1 r2
  have r3 := r2 m hm
  obtain ⟨k1, k2⟩ := front_take (bs := framesF seed Y ds) (s0 := ⟨0, 0, (Y : Int), seed⟩) ⟨Nat.zero_le _, Nat.le_refl _, by dsimp only; omega, by dsimp only; omega⟩ m (fun j hj => r1 j (by omega)) e (by rw [r3]; exact hm1)
  have key : (e = endsF seed Y ds m ∧ ¬ (endsF seed Y ds m < ((framesF seed Y ds).take e).length)) ∨ (e ≠ endsF seed Y ds m ∧ endsF seed Y ds m < ((framesF seed Y ds).take e).length ∧ (rdS ((framesF seed Y ds).take e) (iterS ((framesF seed Y ds).take e) ⟨0, 0, (Y : Int), seed⟩ m)).err ≠ 0) := by
    by_cases hee : e = endsF seed Y ds m
    · exact .inl ⟨hee, by rw [List.length_take]; omega⟩
    · refine .inr ⟨hee, by rw [List.length_take]; omega, ?_⟩
      have hml : m < ds.length := by
        rcases Nat.lt_or_ge m ds.length with h | h
        · exact h
        · obtain rfl : m = ds.length := by omega
          simp only [endsF, List.take_length] at hm1 hee
          omega
      have hlt : e < endsF seed Y ds (m + 1) := by
        rcases hm2 with h | h
        · omega
        · exact h
      rw [endsF_succ m hml] at hlt
      obtain ⟨rest, hr⟩ := framesF_split (seed := seed) (Y := Y) m hml
      rw [k1, r3]
      unfold rdS
      dsimp only
      have e1 : (framesF seed Y ds).drop (endsF seed Y ds m) = frameF (seedsF seed Y (ds.take m)) (BitVec.ofNat 64 (Y + m)) (nth ds m) ++ rest := by rw [hr]; exact List.drop_left
      rw [List.drop_take, e1, List.take_append_of_le_length (by rw [frameF_len]; omega)]
      have hmem : nth ds m ∈ ds := by
        have : nth ds m = ds[m] := by simp [nth, hml]
        rw [this]; exact List.getElem_mem hml
      exact rF_cut _ _ _ _ _ (hd _ hmem) (by omega)
  have hs : StopsAt ((framesF seed Y ds).take e) ⟨0, 0, (Y : Int), seed⟩ m := ⟨k2, fun h => by
    rcases key with ⟨_, h'⟩ | ⟨_, _, h'⟩
    · have := h.1
      rw [k1, r3] at this
      exact h' this
    · exact h' h.2.1⟩
  rcases hp with ⟨h, _⟩ | ⟨_, i, hi, rfl, rfl⟩
  · omega
  · obtain rfl := hi.uniq hs
    refine ⟨by rw [k1, r3], by rw [k1, r3], ?_⟩
    unfold whyS
    have hE : (iterS ((framesF seed Y ds).take e) ⟨0, 0, (Y : Int), seed⟩ i).end_ = endsF seed Y ds i := by rw [k1, r3]
    rw [hE]
    rcases key with ⟨a1, a2⟩ | ⟨a1, a2, a3⟩
    · rw [if_neg a2]; simp [a1]
    · have a4 := (rF_err (iterS ((framesF seed Y ds).take e) ⟨0, 0, (Y : Int), seed⟩ i).seed (((framesF seed Y ds).take e).drop (iterS ((framesF seed Y ds).take e) ⟨0, 0, (Y : Int), seed⟩ i).end_)).2
      rw [if_pos a2, if_pos a3]
      exact ⟨fun h => (a4 (by unfold rdS at h; omega)).elim, fun h => (a1 h).elim⟩
end
/-- Ends of frames, as values. -/
def endsV (seed : BitVec 32) (Y : Nat) (ds : List (List (BitVec 8))) (k : Nat) : List Value := (List.range (k + 1)).map fun j => .int .i64 (endsF seed Y ds j : Nat)
theorem endsV_succ (seed : BitVec 32) (Y : Nat) (ds : List (List (BitVec 8))) (k : Nat) : endsV seed Y ds (k + 1) = endsV seed Y ds k ++ [.int .i64 (endsF seed Y ds (k + 1) : Nat)] := by
  unfold endsV
  rw [List.range_succ, List.map_append]
  rfl
/-- A row's cells. -/
theorem row_cells {w : World} {lo n : Nat} {e : TypeId} {v : Value} {xs : List Value} (h : w.ownsRow lo e 1 v n xs) (hn : 0 < n) : ∃ g c, v = .slice (some ⟨g, 0, none⟩) n c ∧ lo ≤ g ∧ n ≤ c ∧ ∀ j x, xs[j]? = some x → w.cell? ⟨g, j, none⟩ = some x := by
  rcases h.2 with ⟨_, h0⟩ | ⟨g, cap, cur, rfl, hb, hg, hc, hm, hs, hx⟩
  · omega
  · refine ⟨g, cap, rfl, hb, hc, fun j x hj => ?_⟩
    rw [cell_of_row _ _ j _ _ _ hg]
    rw [← hx, List.getElem?_take] at hj
    split at hj
    · simpa using hj
    · cases hj
theorem endsV_get {seed : BitVec 32} {Y : Nat} {ds : List (List (BitVec 8))} {k j : Nat} (h : j ≤ k) : (endsV seed Y ds k)[j]? = some (.int .i64 (endsF seed Y ds j : Nat)) := by
  unfold endsV
  rw [List.getElem?_map, List.getElem?_range (by omega)]
  rfl
end Go.Proofs.Ytfadpjljokpenaa

/-! The walk of flumelaw7's ScanFront. -/
namespace Go.Proofs.Ytfadpjljokpenaa
open Go.RowKit

theorem Try.infoInt : (Try.prog.info? 3).map (fun i => (i.zero, i.size, i.bytes)) = some (some (.int .i64 0), 1, 8) := by kernel_rfl
/-- Where the writing stands: k frames, and their ends. -/
structure FrI (seed : BitVec 32) (Y : Nat) (B : List (List (BitVec 8))) (w1 : World) (k : Nat) (bb ee : Value) (wr : World) : Prop where
  own : OwnB wr w1.heap.size bb (framesF seed Y (B.take k))
  ends : wr.ownsRow w1.heap.size 3 1 ee (k + 1) (endsV seed Y B k)
  small : ∀ i, i < k → (nth B i).length ≤ 4096
  below : Below w1.heap.size w1 wr
section
variable {seed : BitVec 32} {Y : Nat} {B : List (List (BitVec 8))} {w1 wr w' : World} {k : Nat} {bb ee v' : Value}
theorem FrI.keep (h : FrI seed Y B w1 k bb ee wr) (hb : Below wr.heap.size wr w') : FrI seed Y B w1 k bb ee w' :=
  ⟨h.own.keep hb, rows_congr h.ends (fun g hg => by obtain ⟨_, _, hh⟩ := rows_blk h.ends hg; exact hb.block g (heap_lt hh)), h.small, h.below.trans (hb.mono h.below.size)⟩
theorem FrI.begin (seed : BitVec 32) (Y : Nat) (B : List (List (BitVec 8))) (w1 : World) : FrI seed Y B w1 0 (.slice none 0 0) (.slice (some ⟨w1.heap.size, 0, none⟩) 1 1) (w1.alloc (.cells #[.int .i64 0] 3)) :=
  ⟨OwnB.nil _ _, ⟨by simp [endsV], .inr ⟨w1.heap.size, 1, #[.int .i64 0], rfl, Nat.le_refl _, heap_alloc_new w1 _, Nat.le_refl _, by decide, rfl, by simp [endsV, endsF, framesF]⟩⟩, fun i hi => by omega, below_alloc w1 _⟩
/-- Behind the append of the bytes: the ends lie as they lay. -/
theorem FrI.ends_on (h : FrI seed Y B w1 k bb ee wr) (hg : wr.grownBy w' bb.ownBlock) : w'.ownsRow w1.heap.size 3 1 ee (k + 1) (endsV seed Y B k) :=
  rows_congr h.ends fun g hg' => by
    obtain ⟨_, cur, h1⟩ := rows_blk h.ends hg'
    refine hg.block g (heap_lt h1) fun e1 => ?_
    obtain ⟨_, cur', h2⟩ := rows_blk h.own e1.symm
    have := h1.symm.trans h2
    injection this with this; injection this with _ this
    cases this
theorem own_past {base : Nat} {bs : List (BitVec 8)} {n : Nat} {xs : List Value} (h : OwnB wr base bb bs) (he : wr.ownsRow base 3 1 ee n xs) (hg : wr.grownBy w' ee.ownBlock) : OwnB w' base bb bs :=
  rows_congr h fun g hg' => by
    obtain ⟨_, cur, h1⟩ := rows_blk h hg'
    refine hg.block g (heap_lt h1) fun e1 => ?_
    obtain ⟨_, cur', h2⟩ := rows_blk he e1.symm
    have := h1.symm.trans h2
    injection this with this; injection this with _ this
    cases this
end
theorem mem_small {B : List (List (BitVec 8))} (h : ∀ i, i < B.length → (nth B i).length ≤ 4096) : ∀ d ∈ B, d.length ≤ 4096 := fun d hd => by
  obtain ⟨i, hi, rfl⟩ := List.mem_iff_getElem.1 hd
  have := h i hi
  simpa [nth, hi] using this

theorem framesF_lo : ∀ (seed : BitVec 32) (Y : Nat) (ds : List (List (BitVec 8))), ds.length ≤ (framesF seed Y ds).length
  | _, _, [] => by simp
  | seed, Y, d :: ds => by
    have h1 := framesF_lo (sumF seed (BitVec.ofNat 64 Y) d) (Y + 1) ds
    simp only [framesF, List.length_append, frameF_len, List.length_cons]
    omega
set_option maxHeartbeats 8000000 in
set_option maxRecDepth 100000 in
theorem scan_front (s : Option Addr) (B : List (List (BitVec 8))) (cs : Nat) (base : Int) (seed : BitVec 32) (ao : Option Addr) (bs : List (BitVec 8)) (cap : Nat) (cut : Int) (w : World) (hB : ListsAt w s B) (lB : B.length ≤ 5864062014806) (hb : BytesAt w ao bs) (hz : ao = none → cap = 0) 
    (h0 : -9223372036854775808 ≤ base) (h2 : base ≤ 9223372036854775807) (hc1 : -9223372036854775808 ≤ cut) (hc2 : cut ≤ 9223372036854775807) :
    Calls Try.prog 10 #[.slice s B.length cs, .int .i64 base, .int .u32 (bv seed), .slice ao bs.length cap, .int .i64 cut] w (TrueBelow w) := by
  have HB := Lib.hid hB
  have HBS := Lib.hid hb
  have HZ := Lib.hid hz
  clear hB hb hz
  go_enter Try.func10, Try.ntmps10
  go_wp2_with fail
  refine (scan_begun w).mono ?_
  rintro e w1 ⟨rfl, hb1⟩
  have B1 := Lib.hid hb1
  clear hb1
  by_cases h1 : base < 1
  · go_wp2_with fail
    go_ret
    exact ⟨rfl, B1.out⟩
  by_cases h3 : 4611686018427387904 < base
  · go_wp2_with fail
    go_ret
    exact ⟨rfl, B1.out⟩
  by_cases h4 : 100 < B.length
  · have h4' : 100 < (B.length : Int) := by omega
    go_wp2_with fail
    go_ret
    exact ⟨rfl, B1.out⟩
  have h4' : ¬ 100 < (B.length : Int) := by omega
  by_cases h5 : 32768 < bs.length
  · have h5' : 32768 < (bs.length : Int) := by omega
    go_wp2_with fail
    go_ret
    exact ⟨rfl, B1.out⟩
  have h5' : ¬ 32768 < (bs.length : Int) := by omega
  obtain ⟨Y, rfl⟩ : ∃ Y : Nat, base = (Y : Int) := ⟨base.toNat, by omega⟩
  have HY : Hid (1 ≤ Y ∧ Y ≤ 4611686018427387904) := Lib.hid (by omega)
  have FI := Lib.hid (FrI.begin seed Y B w1)
  go_wp2_with fail
  go_loopw [11, 12, 13, 14, 15, 16, 17] (fun bb ee ss i _ _ _ wr => ∃ k : Nat, k ≤ B.length ∧ i = .int .i64 k ∧ ss = .int .u32 (bv (seedsF seed Y (B.take k))) ∧ FrI seed Y B w1 k bb ee wr) (fun _ _ _ i _ _ _ _ => B.length - (intOf i).toNat)
  case atStart => exact ⟨0, by omega, rfl, rfl, FI.out⟩
  case round =>
    clear FI
    obtain ⟨k, hk, rfl, rfl, hF⟩ := hrel
    have FI := Lib.hid hF
    clear hF
    by_cases hlt : k < B.length
    · obtain ⟨b, off, ai, ci, rfl, hc, hbs, hnil, hle, hci⟩ := (HB.out.below (below_trans B1.out FI.out.below)) k hlt
      have HBI := Lib.hid hbs
      have HNil := Lib.hid hnil
      obtain ⟨D, hDk⟩ : ∃ D, nth B k = D := ⟨_, rfl⟩
      rw [hDk] at HBI hc hle
      have HDK := Lib.hid hDk
      have LR : Hid (-9223372036854775808 ≤ (Y : Int) + (k : Int) ∧ (Y : Int) + (k : Int) ≤ 9223372036854775807) := Lib.hid (by have := HY.out; omega)
      have lr1 : -9223372036854775808 ≤ (Y : Int) + (k : Int) := LR.out.1
      have lr2 : (Y : Int) + (k : Int) ≤ 9223372036854775807 := LR.out.2
      obtain ⟨F, Su, E, hWF, hcase⟩ : ∃ F Su E, wF (seedsF seed Y (B.take k)) ((Y : Int) + (k : Int)) D = (F, Su, E) ∧ ((D.length ≤ 4096 ∧ F = frameF (seedsF seed Y (B.take k)) (BitVec.ofNat 64 (Y + k)) D ∧ Su = sumF (seedsF seed Y (B.take k)) (BitVec.ofNat 64 (Y + k)) D ∧ E = 0) ∨ (4096 < D.length ∧ E = 3)) := by
        have := HY.out
        by_cases hd : D.length ≤ 4096
        · exact ⟨_, _, _, wF_at (by omega) (by omega) hd, .inl ⟨hd, rfl, rfl, rfl⟩⟩
        · exact ⟨_, _, _, wF_long (by omega) (by omega) (by omega), .inr ⟨by omega, rfl⟩⟩
      have WF := Lib.hid hWF
      have HC := Lib.hid hcase
      have FL := Lib.hid (wF_len hWF)
      clear hbs hnil hDk hWF hcase
      go_wp2_with fail
      refine (frame_write_x _ (seedsF seed Y (B.take k)) _ ai D _ ci _ rfl HBI.out rfl HNil.out LR.out (by omega) _ _ _ WF.out).mono ?_
      rintro e w4 ⟨v4, rfl, hO4, hb⟩
      have c4' := cell_keep hb hc
      have FI4 := Lib.hid (FI.out.keep hb)
      obtain ⟨a4, c4, rfl, x4, n4, -, -, -⟩ := hO4.slice
      have X4 := Lib.hid x4
      have N4 := Lib.hid n4
      clear hO4 hb x4 n4 hc FI
      rcases HC.out with ⟨hd, rfl, rfl, rfl⟩ | ⟨hd, rfl⟩
      · have hd' : ¬ 4096 < (D.length : Int) := by omega
        have hsml : Hid (∀ d ∈ B.take k, d.length ≤ 4096) := Lib.hid (by
          intro d hdm
          obtain ⟨i, hi, rfl⟩ := List.mem_iff_getElem.1 hdm
          rw [List.length_take] at hi
          have := FI4.out.small i (by omega)
          simpa [nth, show i < B.length by omega] using this)
        have hlen : Hid ((framesF seed Y (B.take k)).length ≤ 411200) := Lib.hid (by
          have := framesF_len seed Y (B.take k) hsml.out
          rw [List.length_take] at this
          omega)
        clear HC
        go_wp2_with (refine wpList_append_bytes (o := ⟨some 71, _, _, _, _, _⟩) rfl _ _ rfl w1.heap.size _ (framesF seed Y (B.take k)) rfl FI4.out.own a4 _ c4 _ rfl rfl X4.out N4.out (by have := FL.out; have := hlen.out; omega) FI4.out.below.size ?_)
        intro v5 w5 hv hg hi
        have FN := Lib.hid (frames_snoc (seed := seed) (Y := Y) k hlt)
        rw [HDK.out] at FN
        have O5 := Lib.hid (show OwnB w5 w1.heap.size v5 (framesF seed Y (B.take (k + 1))) from by rw [FN.out]; exact hv)
        have E5 := Lib.hid (FI4.out.ends_on hg)
        have b5 := Lib.hid (FI4.out.below.trans (FI4.out.own.below hg (Nat.le_refl _) FI4.out.below.size))
        obtain ⟨a5, c5, rfl, -⟩ := O5.out.slice
        have S5 : Hid (∀ i, i < k + 1 → (nth B i).length ≤ 4096) := Lib.hid fun i hi => by
          by_cases e : i = k
          · subst e; rw [HDK.out]; exact hd
          · exact FI4.out.small i (by omega)
        have ES : bv (sumF (seedsF seed Y (B.take k)) (BitVec.ofNat 64 (Y + k)) D) = bv (seedsF seed Y (B.take (k + 1))) := by rw [seeds_snoc k hlt, HDK.out]
        rw [ES]
        obtain ⟨G, hG⟩ : ∃ G : Nat, (framesF seed Y (B.take (k + 1))).length = G := ⟨_, rfl⟩
        rw [hG]
        have GG := Lib.hid hG
        clear hv hg hi FI4 X4 N4 ES hG c4' FN
        obtain ⟨i0, hi, hz0, hz1, hz2⟩ := info_parts Try.infoInt
        have HI := Lib.hid hi
        have HZ0 := Lib.hid hz0
        have HZ1 := Lib.hid hz1
        have HZ2 := Lib.hid hz2
        have R5 : Hid ((w5.alloc (.cells #[.int .i64 (G : Int)] 3)).ownsRow w1.heap.size 3 1 u12 (k + 1) (endsV seed Y B k)) := Lib.hid (rows_congr E5.out fun g hg => by obtain ⟨_, _, hh⟩ := rows_blk E5.out hg; exact (below_alloc w5 _).block g (heap_lt hh))
        have SZ5 : Hid (w1.heap.size ≤ (w5.alloc (.cells #[.int .i64 (G : Int)] 3)).heap.size) := Lib.hid (Nat.le_trans b5.out.size (below_alloc w5 (.cells #[.int .i64 (G : Int)] 3)).size)
        clear hi hz0 hz1 hz2
        go_wp2_with (refine wpList_append_own_at _ (o := ⟨some 76, _, _, _, _, _⟩) rfl _ _ 24 rfl w1.heap.size 3 i0 (.int .i64 0) 1 8 Try.underlying24 HI.out HZ0.out HZ1.out HZ2.out rfl (by decide) u12 (k + 1) (endsV seed Y B k) rfl R5.out ⟨w5.heap.size, 0, none⟩ 1 1 [.int .i64 (G : Int)] rfl rfl (cell_one_new _ _ _) (by intro u hu; rw [List.mem_singleton.1 hu]; rfl) (by simp only [maxLen]; omega) (by omega) SZ5.out ?_)
        intro v6 w6 ho6 hg6 hi6 hat
        clear hi6 hat
        have FI6 : Hid (FrI seed Y B w1 (k + 1) (.slice a5 G c5) v6 w6) := Lib.hid (by
          have b6 := below_alloc w5 (.cells #[.int .i64 (G : Int)] 3)
          have hO := O5.out.keep b6
          rw [GG.out] at hO
          refine ⟨own_past hO R5.out hg6, ?_, S5.out, ?_⟩
          · rw [endsV_succ, show endsF seed Y B (k + 1) = G from GG.out]; exact ho6
          · exact (below_trans b5.out b6).grown hg6 SZ5.out (fun k hk => (rows_blk R5.out hk).1))
        clear ho6 hg6 R5 SZ5 O5 E5 S5 b5 GG HI HZ0 HZ1 HZ2
        go_wp2_with fail
        go_roundw
        case rel => exact ⟨k + 1, by omega, by go_num, rfl, FI6.out⟩
        case measure => simp [intOf]; omega
      · have hd' : 4096 < (D.length : Int) := by omega
        go_wp2_with fail
        go_ret
        exact ⟨rfl, below_trans B1.out FI4.out.below⟩
    · have hge : (B.length : Int) ≤ (k : Int) := by omega
      obtain rfl : k = B.length := by omega
      have hd := mem_small FI.out.small
      have PO : Hid (∀ t y, OverIs (framesF seed Y B ++ bs) (Y : Int) seed t y → B.length ≤ t.count ∧ (framesF seed Y B).length ≤ t.end_ ∧ t.next = (Y : Int) + t.count ∧ t.next ≤ 9223372036854775807 ∧ t.count ≤ t.end_ ∧ t.end_ ≤ (framesF seed Y B).length + bs.length) := Lib.hid fun t y h => front_over (by have := HY.out; omega) (by have := HY.out; omega) hd h
      have PA : Hid (∀ t y, OverIs (framesF seed Y B) (Y : Int) seed t y → t.count = B.length ∧ t.end_ = (framesF seed Y B).length ∧ t.seed = seedsF seed Y B ∧ y = 1) := Lib.hid fun t y h => front_alone (by have := HY.out; omega) (by have := HY.out; omega) hd h
      have PC : Hid (∀ (e m : Nat) t y, e ≤ (framesF seed Y B).length → m ≤ B.length → endsF seed Y B m ≤ e → (m = B.length ∨ e < endsF seed Y B (m + 1)) → OverIs ((framesF seed Y B).take e) (Y : Int) seed t y → t.count = m ∧ t.end_ = endsF seed Y B m ∧ (y = 1 ↔ e = endsF seed Y B m)) := Lib.hid fun e m t y h1' h2' h3' h4' h => cut_front (by have := HY.out; omega) (by have := HY.out; omega) hd h1' h2' h3' h4' h
      have LF := framesF_len seed Y B hd
      have LB := Lib.hid (framesF_lo seed Y B)
      have hO := FI.out.own
      have hE := FI.out.ends
      rw [List.take_length] at hO
      rw [show bv (seedsF seed Y (B.take B.length)) = bv (seedsF seed Y B) by rw [List.take_length]]
      have E0 : Hid (endsF seed Y B 0 = 0) := Lib.hid (by simp [endsF, framesF])
      obtain ⟨full, hfull⟩ : ∃ full, framesF seed Y B = full := ⟨_, rfl⟩
      obtain ⟨SD, hSD⟩ : ∃ SD, seedsF seed Y B = SD := ⟨_, rfl⟩
      rw [hfull] at PO PA PC LF LB hO
      rw [hSD] at PA
      rw [hSD]
      obtain ⟨a5, c5, rfl, n5, l5, m5, x5, sh5⟩ := hO.shape
      obtain ⟨ge, ce, rfl, hge', hce, hcells⟩ := row_cells hE (by omega)
      have EC : Hid (∀ j, j ≤ B.length → wr.cell? ⟨ge, j, none⟩ = some (.int .i64 (endsF seed Y B j : Nat))) := Lib.hid fun j hj => hcells j _ (endsV_get hj)
      have X5 := Lib.hid x5
      have N5 := Lib.hid n5
      have SH5 := Lib.hid sh5
      have HF := FI.out.below
      have BW := Lib.hid HF
      have SW := Lib.hid HF.size
      have m5' : c5 ≤ 9223372036854775807 := by unfold maxLen at m5; omega
      have lf : full.length ≤ 411200 := by omega
      clear FI hd hO hE hfull hSD x5 n5 sh5 hcells HF m5 LF hlt hge
      go_wp2_with (refine wpList_append_bytes (o := ⟨some 79, _, _, _, _, _⟩) rfl _ _ rfl wr.heap.size (.slice none 0 0) [] rfl (OwnB.nil _ _) a5 _ c5 full rfl rfl X5.out N5.out (by rw [List.length_nil]; omega) (Nat.le_refl _) ?_)
      intro v6 w6 hv6 hg6 hi6
      have b6 := (OwnB.nil wr wr.heap.size).below hg6 (Nat.le_refl _) (Nat.le_refl _)
      have O6 := Lib.hid (show OwnB w6 wr.heap.size v6 full from hv6)
      have B6 := Lib.hid b6
      clear hv6 hg6 hi6 b6
      go_wp2_with (refine wpList_append_bytes (o := ⟨some 81, _, _, _, _, _⟩) rfl _ _ rfl wr.heap.size v6 full rfl O6.out ao _ cap bs rfl rfl (HBS.out.below (below_trans (below_trans B1.out BW.out) B6.out)) HZ.out (by omega) B6.out.size ?_)
      intro v7 w7 hv7 hg7 hi7
      have B7 := Lib.hid (B6.out.trans (O6.out.below hg7 (Nat.le_refl _) B6.out.size))
      obtain ⟨a7, c7, rfl, x7, n7, l7, m7, -⟩ := hv7.slice
      have X7 := Lib.hid x7
      have N7 := Lib.hid n7
      rw [List.length_append] at l7
      rw [List.length_append]
      clear hv7 hg7 hi7 x7 n7 O6 B6
      go_wp2_with fail
      refine (scan_over a7 (full ++ bs) _ c7 (Y : Int) _ seed _ rfl X7.out List.length_append N7.out l7 m7 (by omega) h2).mono ?_
      rintro e w8 ⟨t, y, hov, rfl, hb8⟩
      obtain ⟨p1, p2, p3, p4, p5, p6⟩ := PO.out t y hov
      have b8 := below_trans hb8 (below_alloc w8 (.cells (scCells t y) 57))
      have B8 := Lib.hid (B7.out.trans (b8.mono B7.out.size))
      have R8 := heap_alloc_new w8 (.cells (scCells t y) 57)
      obtain ⟨c0, c1, c2, c3, c4, -⟩ := scan_cells R8
      unfold scVal
      unfold scCells at c0 c1 c2 c3 c4 B8
      have k1 : ¬ (t.count : Int) < (B.length : Int) := by omega
      have k2 : ¬ (t.end_ : Int) < (full.length : Int) := by omega
      have k3 : t.next = (Y : Int) + (t.count : Int) := p3
      have k4 : -9223372036854775808 ≤ (Y : Int) + (t.count : Int) := by omega
      have k5 : (Y : Int) + (t.count : Int) ≤ 9223372036854775807 := by omega
      rw [k3] at c2 B8
      clear hov hb8 b8 R8 p1 p2 p4 p5 p6 X7 N7 B7 l7 m7
      rw [k3]
      clear p3 k3
      go_wp2_with fail
      have BY8 := Lib.hid (B8.out.size)
      have HX8 := Lib.hid (X5.out.below (B8.out.mono (Nat.le_refl _)))
      clear c0 c1 c2 c3 c4 k1 k2 k4 k5
      refine (scan_over a5 full _ c5 (Y : Int) _ seed _ rfl HX8.out rfl N5.out l5 m5' (by omega) h2).mono ?_
      rintro e w9 ⟨t2, y2, hov, rfl, hb9⟩
      obtain ⟨p1, p2, p3, p4⟩ := PA.out t2 y2 hov
      obtain ⟨tc, te, tn, ts⟩ := t2
      dsimp only at p1 p2 p3
      subst p1 p2 p3 p4
      have b9 := below_trans hb9 (below_alloc w9 (.cells (scCells ⟨B.length, full.length, tn, ts⟩ 1) 57))
      have B9 := Lib.hid (B8.out.trans (b9.mono BY8.out))
      have R9 := heap_alloc_new w9 (.cells (scCells ⟨B.length, full.length, tn, ts⟩ 1) 57)
      obtain ⟨c0, c1, c2, c3, c4, -⟩ := scan_cells R9
      unfold scVal
      unfold scCells at c0 c1 c2 c3 c4 B9
      dsimp only at c0 c1 c2 c3 c4 B9
      clear hov hb9 b9 R9 HX8 B8 BY8 PO PA
      by_cases hcut : cut < 0
      · go_wp2_with fail
        go_ret
        exact ⟨rfl, below_trans B1.out (below_trans BW.out B9.out)⟩
      by_cases hcut2 : (full.length : Int) < cut
      · go_wp2_with fail
        go_ret
        exact ⟨rfl, below_trans B1.out (below_trans BW.out B9.out)⟩
      obtain ⟨e, rfl⟩ : ∃ e : Nat, cut = (e : Int) := ⟨cut.toNat, by omega⟩
      have hel : e ≤ full.length := by omega
      obtain ⟨W, hW⟩ : ∃ W, w9.alloc (.cells #[.int .i64 B.length, .int .i64 full.length, .int .i64 tn, .int .u32 (bv ts), .int .i64 1] 57) = W := ⟨_, rfl⟩
      rw [hW] at B9 c0 c1 c2 c3 c4
      go_wp2_with fail
      (first | rw [hW] | skip)
      clear hW c0 c1 c2 c3 c4
      have EW : Hid (∀ j, j ≤ B.length → W.cell? ⟨ge, j, none⟩ = some (.int .i64 (endsF seed Y B j : Nat))) := Lib.hid fun j hj => cell_keep B9.out (EC.out j hj)
      have XW := Lib.hid (X5.out.below B9.out)
      have BB := Lib.hid (below_trans B1.out (below_trans BW.out B9.out))
      clear EC X5
      go_loopw [20] (fun n wr' => ∃ m : Nat, m ≤ B.length ∧ n = .int .i64 m ∧ endsF seed Y B m ≤ e ∧ Below W.heap.size W wr') (fun n _ => B.length - (intOf n).toNat)
      case atStart => exact ⟨0, by omega, rfl, by rw [E0.out]; omega, Below.refl _ _⟩
      case round =>
        obtain ⟨m, hm, rfl, hme, hb⟩ := hrel
        have HK := Lib.hid hb
        have EK : Hid (∀ j, j ≤ B.length → wr.cell? ⟨ge, j, none⟩ = some (.int .i64 (endsF seed Y B j : Nat))) := Lib.hid fun j hj => cell_keep HK.out (EW.out j hj)
        clear hb
        have s1 : ((m : Int) + 1) ≤ 9223372036854775807 := by omega
        rcases (show (m < B.length ∧ endsF seed Y B (m + 1) ≤ e) ∨ (m = B.length ∨ e < endsF seed Y B (m + 1)) from by omega) with ⟨hlt, hle⟩ | hstop
        · have g1 := EK.out (m + 1) (by omega)
          have t1 : (m : Int) + 1 < (B.length : Int) + 1 := by omega
          have t2 : ((endsF seed Y B (m + 1) : Nat) : Int) ≤ (e : Int) := by omega
          go_wp2_with fail
          go_roundw
          case rel => exact ⟨m + 1, by omega, by go_num, hle, HK.out⟩
          case measure => simp [intOf]; omega
        · have HS := Lib.hid hstop
          have PM : Hid (∀ t y, OverIs (full.take e) (Y : Int) seed t y → t.count = m ∧ t.end_ = endsF seed Y B m ∧ (y = 1 ↔ e = endsF seed Y B m)) := Lib.hid fun t y h => PC.out e m t y hel hm hme hstop h
          clear EW
          rcases SH5.out with hnone | ⟨g5, hsome, -⟩
          · subst hnone
            have hc0 := N5.out rfl
            subst hc0
            obtain rfl : full = [] := List.length_eq_zero_iff.1 (by omega)
            have hel0 : e = 0 := by simpa using hel
            subst hel0
            have fin : Hid (m = B.length ∨ (m < B.length ∧ 0 < endsF seed Y B (m + 1))) := Lib.hid (by omega)
            clear hstop hme HS
            rcases fin.out with hstop | ⟨hlt, hlte⟩
            · have t1 : ¬ (m : Int) + 1 < (B.length : Int) + 1 := by omega
              clear hstop
              go_wp2_with fail
              refine (scan_over none [] 0 0 (Y : Int) _ seed _ rfl (fun i hi => by simp at hi) rfl (fun _ => rfl) (Nat.le_refl _) (by omega) (by omega) h2).mono ?_
              rintro e' w10 ⟨⟨tc, te, tn3, ts3⟩, y3, hov, rfl, hb10⟩
              obtain ⟨p1, p2, p3⟩ := PM.out _ y3 (by simpa using hov)
              dsimp only at p1 p2
              subst p1 p2
              have b10 := below_trans hb10 (below_alloc w10 (.cells #[.int .i64 tc, .int .i64 (endsF seed Y B tc), .int .i64 tn3, .int .u32 (bv ts3), .int .i64 y3] 57))
              have EK3 := cell_keep b10 (EK.out tc (by omega))
              have R10 := heap_alloc_new w10 (.cells #[.int .i64 tc, .int .i64 (endsF seed Y B tc), .int .i64 tn3, .int .u32 (bv ts3), .int .i64 y3] 57)
              have HB10 := Lib.hid (below_trans BB.out (below_trans HK.out b10))
              have r0 := cell_regrown (show (w10.alloc (.cells #[.int .i64 tc, .int .i64 (endsF seed Y B tc), .int .i64 tn3, .int .u32 (bv ts3), .int .i64 y3] 57)).cell? ⟨w10.heap.size, 0, none⟩ = some (.int .i64 tc) from cell_of_row _ _ 0 _ _ _ R10)
              have r1 := cell_regrown (show (w10.alloc (.cells #[.int .i64 tc, .int .i64 (endsF seed Y B tc), .int .i64 tn3, .int .u32 (bv ts3), .int .i64 y3] 57)).cell? ⟨w10.heap.size, 1, none⟩ = some (.int .i64 (endsF seed Y B tc)) from cell_of_row _ _ 1 _ _ _ R10)
              have r4 := cell_regrown (show (w10.alloc (.cells #[.int .i64 tc, .int .i64 (endsF seed Y B tc), .int .i64 tn3, .int .u32 (bv ts3), .int .i64 y3] 57)).cell? ⟨w10.heap.size, 4, none⟩ = some (.int .i64 y3) from cell_of_row _ _ 4 _ _ _ R10)
              have em := cell_regrown EK3
              rw [scVal_mk]
              obtain ⟨V, hV⟩ : ∃ V, w10.alloc (.cells #[.int .i64 tc, .int .i64 (endsF seed Y B tc), .int .i64 tn3, .int .u32 (bv ts3), .int .i64 y3] 57) = V := ⟨_, rfl⟩
              rw [hV] at HB10 r0 r1 r4 em
              have P3 := Lib.hid p3
              clear hov hb10 b10 EK3 R10 p3
              go_wp2_with fail
              (first | rw [hV] | skip)
              clear hV
              have hy : ((y3 == 1) = true ∧ ((0 : Int) == (endsF seed Y B tc : Nat)) = true) ∨ ((y3 == 1) = false ∧ ((0 : Int) == (endsF seed Y B tc : Nat)) = false) := by
                by_cases h : y3 = 1
                · exact .inl ⟨beq_iff_eq.2 h, beq_iff_eq.2 (by have := P3.out.1 h; omega)⟩
                · exact .inr ⟨beq_false_of_ne h, beq_false_of_ne fun h' => h (P3.out.2 (by omega))⟩
              rcases hy with ⟨hy1, hy2⟩ | ⟨hy1, hy2⟩
              all_goals
                refine wp_region_quiet_below (by kernel_rfl) (by kernel_rfl) ?_
                repeat (go_big_quiet_step (fail))
                refine wpQuiet_nil ?_
                intro w11 hw11
                obtain ⟨⟨nq, osq⟩, hw'⟩ := hw11
                have H11 : Hid (Below w.heap.size w w11) := Lib.hid (by rw [hw']; exact below_trans HB10.out (below_regrown _ _ _))
                clear hw' r0 r1 r4 em
                go_wp2_with fail
                go_ret
                exact ⟨by first | rfl | (rw [hy1, hy2]; rfl) | simp [hy1, hy2], H11.out⟩
            · have hB0 := LB.out
              rw [List.length_nil] at hB0
              omega
          · subst hsome
            have fin : Hid (m = B.length ∨ (m < B.length ∧ e < endsF seed Y B (m + 1))) := Lib.hid (by omega)
            clear hstop hme HS
            rcases fin.out with hstop | ⟨hlt, hlte⟩
            · have t1 : ¬ (m : Int) + 1 < (B.length : Int) + 1 := by omega
              clear hstop
              go_wp2_with fail
              refine (scan_over _ (full.take e) _ c5 (Y : Int) _ seed _ rfl ((XW.out.below HK.out).take e) (by rw [List.length_take]; omega) (fun h => by cases h) (by omega) m5' (by omega) h2).mono ?_
              rintro e' w10 ⟨⟨tc, te, tn3, ts3⟩, y3, hov, rfl, hb10⟩
              obtain ⟨p1, p2, p3⟩ := PM.out _ y3 hov
              dsimp only at p1 p2
              subst p1 p2
              have b10 := below_trans hb10 (below_alloc w10 (.cells #[.int .i64 tc, .int .i64 (endsF seed Y B tc), .int .i64 tn3, .int .u32 (bv ts3), .int .i64 y3] 57))
              have EK3 := cell_keep b10 (EK.out tc (by omega))
              have R10 := heap_alloc_new w10 (.cells #[.int .i64 tc, .int .i64 (endsF seed Y B tc), .int .i64 tn3, .int .u32 (bv ts3), .int .i64 y3] 57)
              have HB10 := Lib.hid (below_trans BB.out (below_trans HK.out b10))
              have r0 := cell_regrown (show (w10.alloc (.cells #[.int .i64 tc, .int .i64 (endsF seed Y B tc), .int .i64 tn3, .int .u32 (bv ts3), .int .i64 y3] 57)).cell? ⟨w10.heap.size, 0, none⟩ = some (.int .i64 tc) from cell_of_row _ _ 0 _ _ _ R10)
              have r1 := cell_regrown (show (w10.alloc (.cells #[.int .i64 tc, .int .i64 (endsF seed Y B tc), .int .i64 tn3, .int .u32 (bv ts3), .int .i64 y3] 57)).cell? ⟨w10.heap.size, 1, none⟩ = some (.int .i64 (endsF seed Y B tc)) from cell_of_row _ _ 1 _ _ _ R10)
              have r4 := cell_regrown (show (w10.alloc (.cells #[.int .i64 tc, .int .i64 (endsF seed Y B tc), .int .i64 tn3, .int .u32 (bv ts3), .int .i64 y3] 57)).cell? ⟨w10.heap.size, 4, none⟩ = some (.int .i64 y3) from cell_of_row _ _ 4 _ _ _ R10)
              have em := cell_regrown EK3
              rw [scVal_mk]
              obtain ⟨V, hV⟩ : ∃ V, w10.alloc (.cells #[.int .i64 tc, .int .i64 (endsF seed Y B tc), .int .i64 tn3, .int .u32 (bv ts3), .int .i64 y3] 57) = V := ⟨_, rfl⟩
              rw [hV] at HB10 r0 r1 r4 em
              have P3 := Lib.hid p3
              clear hov hb10 b10 EK3 R10 p3
              go_wp2_with fail
              (first | rw [hV] | skip)
              clear hV
              have hy : ((y3 == 1) = true ∧ ((e : Int) == (endsF seed Y B tc : Nat)) = true) ∨ ((y3 == 1) = false ∧ ((e : Int) == (endsF seed Y B tc : Nat)) = false) := by
                by_cases h : y3 = 1
                · exact .inl ⟨beq_iff_eq.2 h, beq_iff_eq.2 (by have := P3.out.1 h; omega)⟩
                · exact .inr ⟨beq_false_of_ne h, beq_false_of_ne fun h' => h (P3.out.2 (by omega))⟩
              rcases hy with ⟨hy1, hy2⟩ | ⟨hy1, hy2⟩
              all_goals
                refine wp_region_quiet_below (by kernel_rfl) (by kernel_rfl) ?_
                repeat (go_big_quiet_step (fail))
                refine wpQuiet_nil ?_
                intro w11 hw11
                obtain ⟨⟨nq, osq⟩, hw'⟩ := hw11
                have H11 : Hid (Below w.heap.size w w11) := Lib.hid (by rw [hw']; exact below_trans HB10.out (below_regrown _ _ _))
                clear hw' r0 r1 r4 em
                go_wp2_with fail
                go_ret
                exact ⟨by first | rfl | (rw [hy1, hy2]; rfl) | simp [hy1, hy2], H11.out⟩
            · have t1 : (m : Int) + 1 < (B.length : Int) + 1 := by omega
              have g1 := EK.out (m + 1) (by omega)
              obtain ⟨E1, hE1⟩ : ∃ E1, endsF seed Y B (m + 1) = E1 := ⟨_, rfl⟩
              rw [hE1] at g1 hlte
              have t2 : ¬ (E1 : Int) ≤ (e : Int) := by omega
              clear hE1 hlte
              go_wp2_with fail
              refine (scan_over _ (full.take e) _ c5 (Y : Int) _ seed _ rfl ((XW.out.below HK.out).take e) (by rw [List.length_take]; omega) (fun h => by cases h) (by omega) m5' (by omega) h2).mono ?_
              rintro e' w10 ⟨⟨tc, te, tn3, ts3⟩, y3, hov, rfl, hb10⟩
              obtain ⟨p1, p2, p3⟩ := PM.out _ y3 hov
              dsimp only at p1 p2
              subst p1 p2
              have b10 := below_trans hb10 (below_alloc w10 (.cells #[.int .i64 tc, .int .i64 (endsF seed Y B tc), .int .i64 tn3, .int .u32 (bv ts3), .int .i64 y3] 57))
              have EK3 := cell_keep b10 (EK.out tc (by omega))
              have R10 := heap_alloc_new w10 (.cells #[.int .i64 tc, .int .i64 (endsF seed Y B tc), .int .i64 tn3, .int .u32 (bv ts3), .int .i64 y3] 57)
              have HB10 := Lib.hid (below_trans BB.out (below_trans HK.out b10))
              have r0 := cell_regrown (show (w10.alloc (.cells #[.int .i64 tc, .int .i64 (endsF seed Y B tc), .int .i64 tn3, .int .u32 (bv ts3), .int .i64 y3] 57)).cell? ⟨w10.heap.size, 0, none⟩ = some (.int .i64 tc) from cell_of_row _ _ 0 _ _ _ R10)
              have r1 := cell_regrown (show (w10.alloc (.cells #[.int .i64 tc, .int .i64 (endsF seed Y B tc), .int .i64 tn3, .int .u32 (bv ts3), .int .i64 y3] 57)).cell? ⟨w10.heap.size, 1, none⟩ = some (.int .i64 (endsF seed Y B tc)) from cell_of_row _ _ 1 _ _ _ R10)
              have r4 := cell_regrown (show (w10.alloc (.cells #[.int .i64 tc, .int .i64 (endsF seed Y B tc), .int .i64 tn3, .int .u32 (bv ts3), .int .i64 y3] 57)).cell? ⟨w10.heap.size, 4, none⟩ = some (.int .i64 y3) from cell_of_row _ _ 4 _ _ _ R10)
              have em := cell_regrown EK3
              rw [scVal_mk]
              obtain ⟨V, hV⟩ : ∃ V, w10.alloc (.cells #[.int .i64 tc, .int .i64 (endsF seed Y B tc), .int .i64 tn3, .int .u32 (bv ts3), .int .i64 y3] 57) = V := ⟨_, rfl⟩
              rw [hV] at HB10 r0 r1 r4 em
              have P3 := Lib.hid p3
              clear hov hb10 b10 EK3 R10 p3
              go_wp2_with fail
              (first | rw [hV] | skip)
              clear hV
              have hy : ((y3 == 1) = true ∧ ((e : Int) == (endsF seed Y B tc : Nat)) = true) ∨ ((y3 == 1) = false ∧ ((e : Int) == (endsF seed Y B tc : Nat)) = false) := by
                by_cases h : y3 = 1
                · exact .inl ⟨beq_iff_eq.2 h, beq_iff_eq.2 (by have := P3.out.1 h; omega)⟩
                · exact .inr ⟨beq_false_of_ne h, beq_false_of_ne fun h' => h (P3.out.2 (by omega))⟩
              rcases hy with ⟨hy1, hy2⟩ | ⟨hy1, hy2⟩
              all_goals
                refine wp_region_quiet_below (by kernel_rfl) (by kernel_rfl) ?_
                repeat (go_big_quiet_step (fail))
                refine wpQuiet_nil ?_
                intro w11 hw11
                obtain ⟨⟨nq, osq⟩, hw'⟩ := hw11
                have H11 : Hid (Below w.heap.size w w11) := Lib.hid (by rw [hw']; exact below_trans HB10.out (below_regrown _ _ _))
                clear hw' r0 r1 r4 em
                go_wp2_with fail
                go_ret
                exact ⟨by first | rfl | (rw [hy1, hy2]; rfl) | simp [hy1, hy2], H11.out⟩
end Go.Proofs.Ytfadpjljokpenaa

/- The plain laws of scans: frames one behind the other; a front alone; a front's halves. -/
import Derived.Test.YtfadpjljokpenaaScanRecords
import Derived.Test.YtfadpjljokpenaaFrameAll
namespace Go.Proofs.Ytfadpjljokpenaa
open Go.RowKit

theorem iterS_first (bs : List (BitVec 8)) (s : ScV) : ∀ i, iterS bs s (i + 1) = iterS bs (nextS bs s) i
  | 0 => rfl
  | i + 1 => by
    show nextS bs (iterS bs s (i + 1)) = nextS bs (iterS bs (nextS bs s) i)
    rw [iterS_first bs s i]
theorem iterS_count (bs : List (BitVec 8)) (s : ScV) : ∀ i, (iterS bs s i).count = s.count + i ∧ (iterS bs s i).next = s.next + i
  | 0 => ⟨rfl, by simp [iterS]⟩
  | i + 1 => by
    obtain ⟨h1, h2⟩ := iterS_count bs s i
    refine ⟨?_, ?_⟩
    · show (iterS bs s i).count + 1 = _; omega
    · show (iterS bs s i).next + 1 = _; omega
/-- Frames one behind the other, each behind the sum of the one ahead. -/
def framesF : BitVec 32 → Nat → List (List (BitVec 8)) → List (BitVec 8)
  | _, _, [] => []
  | seed, n, d :: ds => frameF seed (BitVec.ofNat 64 n) d ++ framesF (sumF seed (BitVec.ofNat 64 n) d) (n + 1) ds
def seedsF : BitVec 32 → Nat → List (List (BitVec 8)) → BitVec 32
  | seed, _, [] => seed
  | seed, n, d :: ds => seedsF (sumF seed (BitVec.ofNat 64 n) d) (n + 1) ds
theorem framesF_snoc : ∀ (seed : BitVec 32) (n : Nat) (ds : List (List (BitVec 8))) (d : List (BitVec 8)), framesF seed n (ds ++ [d]) = framesF seed n ds ++ frameF (seedsF seed n ds) (BitVec.ofNat 64 (n + ds.length)) d
  | seed, n, [], d => by simp [framesF, seedsF]
  | seed, n, x :: ds, d => by
    simp only [List.cons_append, framesF, seedsF, List.length_cons]
    rw [framesF_snoc, List.append_assoc, show n + 1 + ds.length = n + (ds.length + 1) by omega]
theorem seedsF_snoc : ∀ (seed : BitVec 32) (n : Nat) (ds : List (List (BitVec 8))) (d : List (BitVec 8)), seedsF seed n (ds ++ [d]) = sumF (seedsF seed n ds) (BitVec.ofNat 64 (n + ds.length)) d
  | seed, n, [], d => by simp [seedsF]
  | seed, n, x :: ds, d => by
    simp only [List.cons_append, seedsF, List.length_cons]
    rw [seedsF_snoc, show n + 1 + ds.length = n + (ds.length + 1) by omega]
theorem framesF_append : ∀ (seed : BitVec 32) (n : Nat) (ds es : List (List (BitVec 8))), framesF seed n (ds ++ es) = framesF seed n ds ++ framesF (seedsF seed n ds) (n + ds.length) es
  | seed, n, [], es => by simp [framesF, seedsF]
  | seed, n, x :: ds, es => by
    simp only [List.cons_append, framesF, seedsF, List.length_cons]
    rw [framesF_append, List.append_assoc, show n + 1 + ds.length = n + (ds.length + 1) by omega]
theorem bv_ofN {n : Nat} (h : n < 18446744073709551616) : bv (BitVec.ofNat 64 n) = (n : Int) := by
  unfold bv
  rw [BitVec.toNat_ofNat, Nat.mod_eq_of_lt (by omega)]
theorem go_front {bs : List (BitVec 8)} {s : ScV} {n : Nat} {d behind : List (BitVec 8)} (hb : bs.drop s.end_ = frameF s.seed (BitVec.ofNat 64 n) d ++ behind) (hn : s.next = (n : Int)) (h1 : 1 ≤ n) (h2 : n ≤ 9223372036854775806) (hd : d.length ≤ 4096) :
    goS bs s ∧ nextS bs s = ⟨s.count + 1, s.end_ + (16 + d.length), s.next + 1, sumF s.seed (BitVec.ofNat 64 n) d⟩ := by
  have hr : rdS bs s = ⟨BitVec.ofNat 64 n, d, 16 + d.length, sumF s.seed (BitVec.ofNat 64 n) d, 0⟩ := by
    unfold rdS
    rw [hb]
    refine rF_front _ _ _ _ hd ?_ ?_ <;> (rw [BitVec.toNat_ofNat, Nat.mod_eq_of_lt (by omega)]; omega)
  have hl : (bs.drop s.end_).length = 16 + d.length + behind.length := by rw [hb, List.length_append, frameF_len]
  rw [List.length_drop] at hl
  refine ⟨⟨by omega, by rw [hr], by rw [hr, hn]; exact bv_ofN (by omega)⟩, ?_⟩
  unfold nextS
  rw [hr]
/-- A scan over frames. -/
theorem front_run {bs : List (BitVec 8)} : ∀ (ds : List (List (BitVec 8))) (s : ScV) (n : Nat) (behind : List (BitVec 8)), bs.drop s.end_ = framesF s.seed n ds ++ behind → s.next = (n : Int) → 1 ≤ n → n + ds.length ≤ 9223372036854775807 → (∀ d ∈ ds, d.length ≤ 4096) →
    (∀ i, i < ds.length → goS bs (iterS bs s i)) ∧ ∀ i, i ≤ ds.length → iterS bs s i = ⟨s.count + i, s.end_ + (framesF s.seed n (ds.take i)).length, s.next + i, seedsF s.seed n (ds.take i)⟩
  | [], s, n, behind, _, _, _, _, _ => ⟨fun i hi => by simp at hi, fun i hi => by
      have : i = 0 := by simpa using hi
      subst this
      simp [iterS, framesF, seedsF]⟩
  | d :: ds, s, n, behind, hb, hn, h1, h2, hd => by
    simp only [List.length_cons] at h2
    have hb' : bs.drop s.end_ = frameF s.seed (BitVec.ofNat 64 n) d ++ (framesF (sumF s.seed (BitVec.ofNat 64 n) d) (n + 1) ds ++ behind) := by
      rw [hb]; simp only [framesF, List.append_assoc]
    obtain ⟨hg, hx⟩ := go_front hb' hn h1 (by omega) (hd d (by simp))
    have hb2 : bs.drop (s.end_ + (16 + d.length)) = framesF (sumF s.seed (BitVec.ofNat 64 n) d) (n + 1) ds ++ behind := by
      rw [← List.drop_drop, hb', List.drop_left' (frameF_len _ _ _)]
    obtain ⟨i1, i2⟩ := front_run ds ⟨s.count + 1, s.end_ + (16 + d.length), s.next + 1, sumF s.seed (BitVec.ofNat 64 n) d⟩ (n + 1) behind hb2 (by dsimp only; omega) (by omega) (by omega) (fun x hxm => hd x (by simp [hxm]))
    refine ⟨fun i hi => ?_, fun i hi => ?_⟩
    · cases i with
      | zero => exact hg
      | succ i =>
        rw [iterS_first, hx]
        exact i1 i (by simpa using hi)
    · cases i with
      | zero => simp [iterS, framesF, seedsF]
      | succ i =>
        rw [iterS_first, hx, i2 i (by simpa using hi)]
        simp only [List.take_succ_cons, framesF, seedsF, List.length_append, frameF_len]
        congr 1 <;> omega
/-- No whole frame. -/
theorem rF_cut (seed s' : BitVec 32) (lsn : BitVec 64) (d : List (BitVec 8)) (r : Nat) (hd : d.length ≤ 4096) (hr : r < 16 + d.length) : (rF seed ((frameF s' lsn d).take r)).err ≠ 0 := by
  intro h
  obtain ⟨r1, r2, r3, r4, r5, r6, r7⟩ := rF_ok h
  generalize hX : rF seed ((frameF s' lsn d).take r) = X at *
  rw [List.length_take, frameF_len] at r5
  have h4 : (frameF seed X.lsn X.data).take 4 = (frameF s' lsn d).take 4 := by
    rw [r7, List.take_take, List.take_take, show min (min 4 X.n) r = 4 by omega]
  unfold frameF at h4
  rw [List.append_assoc, List.append_assoc, List.take_left' (fixedL_len _ _), List.append_assoc, List.append_assoc, List.take_left' (fixedL_len _ _)] at h4
  have h5 := congrArg leN h4
  rw [leN_fixedN _ (by omega), leN_fixedN _ (by omega)] at h5
  omega
/-- The frames up to a place. -/
theorem goS_take {bs : List (BitVec 8)} {s : ScV} {e : Nat} (h : goS bs s) (he : s.end_ + (rdS bs s).n ≤ e) : rdS (bs.take e) s = rdS bs s ∧ goS (bs.take e) s := by
  obtain ⟨h1, h2, h3⟩ := h
  obtain ⟨r1, r2, r3, r4, r5, r6, r7⟩ := rF_ok h2
  have hr : rdS (bs.take e) s = rdS bs s := by
    have e1 : bs.drop s.end_ = frameF s.seed (rdS bs s).lsn (rdS bs s).data ++ (bs.drop s.end_).drop (rdS bs s).n := by
      conv => lhs; rw [← List.take_append_drop (rdS bs s).n (bs.drop s.end_)]
      exact congrArg (· ++ _) r7.symm
    have e2 : (bs.take e).drop s.end_ = frameF s.seed (rdS bs s).lsn (rdS bs s).data ++ ((bs.drop s.end_).drop (rdS bs s).n).take (e - s.end_ - (rdS bs s).n) := by
      rw [List.drop_take, e1, List.take_append, frameF_len, List.take_of_length_le (by rw [frameF_len]; have : (rdS bs s).n = 16 + (rdS bs s).data.length := r4; omega)]
      have : (rdS bs s).n = 16 + (rdS bs s).data.length := r4
      rw [← this, ← e1]
    have f1 := rF_front s.seed (rdS bs s).lsn (rdS bs s).data ((bs.drop s.end_).drop (rdS bs s).n) r3 r1 r2
    have f2 := rF_front s.seed (rdS bs s).lsn (rdS bs s).data (((bs.drop s.end_).drop (rdS bs s).n).take (e - s.end_ - (rdS bs s).n)) r3 r1 r2
    rw [← e1] at f1
    rw [← e2] at f2
    exact f2.trans f1.symm
  refine ⟨hr, ?_, by rw [hr]; exact h2, by rw [hr]; exact h3⟩
  have : (rdS bs s).n = 16 + (rdS bs s).data.length := r4
  rw [List.length_take]
  omega
theorem front_take {bs : List (BitVec 8)} {s0 : ScV} (k : OkS bs s0) : ∀ i, (∀ j, j < i → goS bs (iterS bs s0 j)) → ∀ e, (iterS bs s0 i).end_ ≤ e → iterS (bs.take e) s0 i = iterS bs s0 i ∧ ∀ j, j < i → goS (bs.take e) (iterS (bs.take e) s0 j)
  | 0, _, _, _ => ⟨rfl, fun j hj => by omega⟩
  | i + 1, h, e, he => by
    have he' : (iterS bs s0 i).end_ + (rdS bs (iterS bs s0 i)).n ≤ e := he
    obtain ⟨h1, h2⟩ := front_take k i (fun j hj => h j (by omega)) e (by omega)
    obtain ⟨g1, g2⟩ := goS_take (h i (by omega)) he'
    refine ⟨?_, fun j hj => ?_⟩
    · show nextS (bs.take e) (iterS (bs.take e) s0 i) = nextS bs (iterS bs s0 i)
      rw [h1]
      unfold nextS
      rw [g1]
    · by_cases hji : j = i
      · subst hji; rw [h1]; exact g2
      · exact h2 j (by omega)
/-- The front alone: it ends where it ended, by its end. -/
theorem stops_front {bs : List (BitVec 8)} {s0 : ScV} {i : Nat} (k : OkS bs s0) (h : StopsAt bs s0 i) : StopsAt (bs.take (iterS bs s0 i).end_) s0 i ∧ iterS (bs.take (iterS bs s0 i).end_) s0 i = iterS bs s0 i ∧ whyS (bs.take (iterS bs s0 i).end_) (iterS bs s0 i) = 1 := by
  obtain ⟨h1, h2⟩ := front_take k i h.1 _ (Nat.le_refl _)
  have hl : ¬ (iterS bs s0 i).end_ < (bs.take (iterS bs s0 i).end_).length := by rw [List.length_take]; omega
  refine ⟨⟨h2, fun hg => hl ?_⟩, h1, by unfold whyS; rw [if_neg hl]⟩
  rw [h1] at hg
  exact hg.1
/-- What lies behind a front: no frame more. -/
theorem stops_behind {bs : List (BitVec 8)} {s : ScV} (h : ¬ goS bs s) : StopsAt (bs.drop s.end_) ⟨0, 0, s.next, s.seed⟩ 0 ∧ whyS (bs.drop s.end_) ⟨0, 0, s.next, s.seed⟩ = whyS bs s := by
  have hr : rdS (bs.drop s.end_) ⟨0, 0, s.next, s.seed⟩ = rdS bs s := by unfold rdS; simp
  have hl : (0 < (bs.drop s.end_).length) ↔ s.end_ < bs.length := by rw [List.length_drop]; omega
  refine ⟨⟨fun j hj => by omega, fun hg => h ⟨hl.1 hg.1, hr ▸ hg.2.1, hr ▸ hg.2.2⟩⟩, ?_⟩
  unfold whyS
  rw [hr]
  by_cases hc : s.end_ < bs.length
  · rw [if_pos hc, if_pos (hl.2 hc)]
  · rw [if_neg hc, if_neg (fun hx => hc (hl.1 hx))]
end Go.Proofs.Ytfadpjljokpenaa

/-! The walk of flumelaw7's begun. -/
namespace Go.Proofs.Ytfadpjljokpenaa
open Go.RowKit

/-- A slice of the call's own is a slice. -/
theorem row_slice {w : World} {lo k size : Nat} {e : TypeId} {v : Value} {xs : List Value} (h : w.ownsRow lo e size v k xs) : ∃ a c, v = .slice a k c := by
  rcases h.2 with ⟨rfl, h0⟩ | ⟨g, cap, _, rfl, _⟩
  · exact ⟨none, 0, by rw [h0]⟩
  · exact ⟨_, _, rfl⟩
def begunB : List (BitVec 8) := framesF 0#32 5 [[97#8], []]
theorem begun_run : (∀ i, i < 2 → goS begunB (iterS begunB ⟨0, 0, 5, 0#32⟩ i)) ∧ ∀ i, i ≤ 2 → iterS begunB ⟨0, 0, 5, 0#32⟩ i = ⟨0 + i, 0 + (framesF 0#32 5 ([[97#8], []].take i)).length, 5 + i, seedsF 0#32 5 ([[97#8], []].take i)⟩ :=
  front_run [[97#8], []] ⟨0, 0, 5, 0#32⟩ 5 [] (by simp [begunB]) rfl (by decide) (by decide) (by decide)
theorem begun_len : begunB.length = 33 := by simp [begunB, framesF, frameF_len]
theorem begun_two : iterS begunB ⟨0, 0, 5, 0#32⟩ 2 = ⟨2, 33, 7, seedsF 0#32 5 [[97#8], []]⟩ := by
  rw [begun_run.2 2 (by decide)]
  simp [framesF, frameF_len]
theorem begun_one : iterS begunB ⟨0, 0, 5, 0#32⟩ 1 = ⟨1, 17, 6, sumF 0#32 5#64 [97#8]⟩ := by
  rw [begun_run.2 1 (by decide)]
  simp [framesF, frameF_len, seedsF]
theorem begun_stops : StopsAt begunB ⟨0, 0, 5, 0#32⟩ 2 := ⟨begun_run.1, fun h => by
  have := h.1
  rw [begun_two, begun_len] at this
  simp at this⟩
theorem begun_over {t : ScV} {y : Int} (h : OverIs begunB 5 0#32 t y) : t = ⟨2, 33, 7, seedsF 0#32 5 [[97#8], []]⟩ ∧ y = 1 := by
  rcases h with ⟨h, _⟩ | ⟨_, i, hi, rfl, rfl⟩
  · omega
  · obtain rfl := hi.uniq begun_stops
    refine ⟨begun_two, ?_⟩
    rw [begun_two]
    unfold whyS
    rw [if_neg (by rw [begun_len]; simp)]
    rfl
theorem begun_find {x at_ er : Int} {data : List (BitVec 8)} (h : FindIs begunB 5 0#32 6 x data at_ er) : x = 6 ∧ at_ = 17 ∧ er = 0 := by
  have h2 := begun_run.1 1 (by decide)
  have hn := h2.2.2
  rw [begun_one] at hn
  rcases h with ⟨i, _, hg, hx, rfl, _, rfl, rfl⟩ | ⟨i, hi, hx, _⟩
  · have hne : i = 1 := by
      have := (hg i (Nat.le_refl _)).2.2
      rw [hx, (iterS_count _ _ i).2] at this
      dsimp only at this
      omega
    subst hne
    rw [begun_one]
    exact ⟨rfl, rfl, rfl⟩
  · rcases hi with ⟨h, _⟩ | ⟨_, hi⟩
    · omega
    · obtain rfl := hi.uniq begun_stops
      refine (hx 1 (by decide) ?_).elim
      rw [begun_one]
      exact hn
theorem begun_recs {l : List PRec} (h : RecordsIs begunB 5 0#32 9 l) : l.length = 2 := by
  obtain ⟨ht, h⟩ := h
  have hb := ht.bound ⟨Nat.zero_le _, Nat.le_refl _, by decide, by decide⟩
  rw [begun_len] at hb
  rcases h with ⟨h, _⟩ | ⟨_, _, h⟩
  · omega
  · rcases h with h | ⟨h, _⟩
    · rcases h with ⟨h, _⟩ | ⟨_, h⟩
      · omega
      · exact h.uniq begun_stops
    · omega
theorem wF_five : wF 0#32 5 [97#8] = (frameF 0#32 5#64 [97#8], sumF 0#32 5#64 [97#8], 0) := by
  unfold wF
  rw [if_neg (by decide), if_neg (by decide)]; rfl
theorem wF_six (s : BitVec 32) : wF s 6 [] = (frameF s 6#64 [], sumF s 6#64 [], 0) := by
  unfold wF
  rw [if_neg (by decide), if_neg (by decide)]; rfl

theorem run_equalIn_nilFunc {P : Program} (d : Nat) (t : TypeId) (f : Fn) (a b : Array Value) (w : World) {ps rs : Array TypeId} {v : Bool} (h : P.underlying t = some (.func ps rs v)) : (Op.equalIn (d + 1) t (.func f a b) .nilFunc).run P w = .ok false w := by
  simp [Op.equalIn, run_underlying h]
theorem eql_nilFunc (f : Fn) (b : Array Value) (u : World) : (binOp .eql 68 (.func f #[] b) .nilFunc).run Try.prog u = .ok (.bool false) u := by
  have h : (Op.equal 68 (.func f #[] b) .nilFunc).run Try.prog u = .ok false u := run_equalIn_nilFunc 9999 _ f #[] b u Try.underlying68
  simp only [binOp]
  simp [h]
set_option maxHeartbeats 4000000 in
set_option maxRecDepth 100000 in
theorem scan_begun (w : World) :
    Calls Try.prog 32 #[] w fun e w' => e = .returned (.bool true) ∧ Below w.heap.size w w' := by
  have hb := Lib.hid (bytes_new w [97#8] 5 (1, 2))
  have hb0 := Lib.hid (Below.alloc (Below.refl w.heap.size w) (Nat.le_refl _) (.cells (bvals [97#8]).toArray 5 (1, 2)))
  have kc := fun (w : World) (C : Array Value) (n c : Nat) => Lib.run_convert_bytes_const (P := Try.prog) w 31 5 C n c Try.underlying31 Try.underlying5
  go_enter Try.func32, Try.ntmps32
  go_wp2_with fail
  refine (ref_write_x _ 0#32 5 _ [97#8] 1 1 _ (by first | rfl | simp) hb.out rfl (fun h => by cases h) (by decide) (by decide) _ _ _ wF_five).mono ?_
  rintro e w1 ⟨v1, rfl, hO, hb1⟩
  obtain ⟨S, hS⟩ : ∃ S, sumF 0#32 5#64 [97#8] = S := ⟨_, rfl⟩
  rw [hS]
  have HS := Lib.hid hS
  have B1 := Lib.hid (below_trans hb0.out hb1)
  have O1 := Lib.hid hO
  clear hO hb1 hS kc hb hb0
  go_wp2_with fail
  refine (ref_write_x _ S 6 none [] 0 0 _ rfl (fun i hi => by simp at hi) rfl (fun _ => rfl) (by decide) (by decide) _ _ _ (wF_six S)).mono ?_
  rintro e w2 ⟨v2, rfl, hO, hb2⟩
  obtain ⟨a2, c2, rfl, x2, n2, l2, m2, -⟩ := hO.slice
  have B2 := Lib.hid (below_trans B1.out hb2)
  have O2 := Lib.hid (OwnB.base (O1.out.keep hb2) (show w.heap.size ≤ _ from by simp))
  have X2 := Lib.hid x2
  have N2 := Lib.hid n2
  clear hO hb2 x2 n2 l2 m2 O1 B1
  have L2 := Lib.hid (show (frameF S 6#64 []).length = 16 from frameF_len _ _ _)
  have hl17 : (frameF 0#32 5#64 [97#8]).length = 17 := frameF_len _ _ _
  go_wp2_with (refine wpList_append_bytes (o := ⟨some 27, _, _, _, _, _⟩) rfl _ _ rfl w.heap.size _ _ rfl O2.out a2 _ c2 (frameF S 6#64 []) rfl rfl X2.out N2.out (by rw [hl17, L2.out]; decide) B2.out.size ?_)
  intro v3 w3 hv3 hg3 hi3
  clear hi3
  have hB : frameF 0#32 5#64 [97#8] ++ frameF S 6#64 [] = begunB := by rw [← HS.out]; simp [begunB, framesF]
  have b3 := O2.out.below hg3 (Nat.le_refl _) B2.out.size
  rw [hB] at hv3
  obtain ⟨a3, c3, rfl, x3, n3, l3, m3, -⟩ := hv3.slice
  rw [begun_len] at l3
  rw [begun_len]
  have B3 := Lib.hid (B2.out.trans b3)
  have X3 := Lib.hid x3
  have N3 := Lib.hid n3
  clear hv3 hg3 b3 x3 n3 hB hl17 O2 X2 N2 L2 HS
  go_wp2_with fail
  refine (scan_over a3 begunB 33 c3 5 0 0#32 _ rfl X3.out begun_len N3.out l3 m3 (by decide) (by decide)).mono ?_
  rintro e w4 ⟨t, y, hov, rfl, hb4⟩
  obtain ⟨rfl, rfl⟩ := begun_over hov
  obtain ⟨S2, hS2⟩ : ∃ S2, seedsF 0#32 5 [[97#8], []] = S2 := ⟨_, rfl⟩
  unfold scVal
  rw [hS2]
  have B4 := Lib.hid (below_trans B3.out hb4)
  have X4 := Lib.hid (X3.out.below (below_trans hb4 (below_alloc w4 (.cells #[.int .i64 2, .int .i64 33, .int .i64 7, .int .u32 (bv S2), .int .i64 1] 57))))
  have R4 := Lib.hid (heap_alloc_new w4 (.cells #[.int .i64 2, .int .i64 33, .int .i64 7, .int .u32 (bv S2), .int .i64 1] 57))
  clear hov hb4 hS2
  go_wp2_with fail
  refine (scan_find a3 begunB 33 c3 5 0 6 0#32 _ rfl X4.out begun_len N3.out (by decide) (by decide)).mono ?_
  rintro e w5 ⟨x, v, data, at_, er, hfi, rfl, hO, hb5⟩
  obtain ⟨rfl, rfl, rfl⟩ := begun_find hfi
  obtain ⟨a5, c5, rfl, -, -, -, -, -⟩ := hO.slice
  have B5 := Lib.hid (below_trans (below_trans B4.out (below_alloc w4 _)) hb5)
  have R5 := Lib.hid ((hb5.block _ (by simp)).trans R4.out)
  have bq := below_alloc w5 (.cells #[.int .i64 6, .slice a5 data.length c5] 34)
  have Q5 := Lib.hid (heap_alloc_new w5 (.cells #[.int .i64 6, .slice a5 data.length c5] 34))
  have X6 := Lib.hid (X4.out.below (below_trans hb5 bq))
  have Z5 : Hid (w4.heap.size + 1 ≤ w5.heap.size) := Lib.hid (by have := hb5.size; simpa using this)
  clear hfi hO hb5 bq X4 R4 B4
  go_wp2_with fail
  refine (scan_each a3 begunB 33 c3 5 0 0#32 _ rfl X6.out begun_len N3.out (by decide)).mono ?_
  rintro e w6 ⟨bN, bS, bO, ao', cap, rfl, -, hb6⟩
  have z5 := Z5.out
  have r5 := (Array.getElem?_eq_some_iff.1 Q5.out).1
  have R6 := (hb6.block w4.heap.size (by omega)).trans (((below_alloc w5 (.cells #[.int .i64 6, .slice a5 data.length c5] 34)).block w4.heap.size (by omega)).trans R5.out)
  have Q6 := (hb6.block w5.heap.size r5).trans Q5.out
  have B6 := Lib.hid (below_trans (below_trans B5.out (below_alloc w5 _)) hb6)
  have X7 := Lib.hid (X6.out.below hb6)
  obtain ⟨d0, d1, d2, d3, d4, -⟩ := scan_cells (s := ⟨2, 33, 7, S2⟩) (y := 1) R6
  have q0 := cell_of_row _ _ 0 _ _ _ Q6
  clear r5 z5 R6 Q6 hb6 B5 X6 Q5 R5
  unfold eachFn
  have hne := eql_nilFunc
  go_wp2_with fail
  refine (scan_records a3 begunB 33 c3 5 0 9 0#32 _ rfl X7.out begun_len N3.out (by decide) (by decide)).mono ?_
  rintro e w7 ⟨lv, l, hr, rfl, hrow, hb7⟩
  have hlen := begun_recs hr
  obtain ⟨a7, c7, rfl⟩ := row_slice hrow.row
  rw [hlen]
  go_wp2_with fail
  go_ret
  exact ⟨rfl, below_trans B6.out hb7⟩
end Go.Proofs.Ytfadpjljokpenaa

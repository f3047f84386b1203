/- The walk of flumelaw1's WireApart. -/
import Derived.Test.YtggbhakkgbfneaaFresh
import Derived.Test.YtggbhakkgbfneaaOpenU64s
namespace Go.Proofs.Ytggbhakkgbfneaa
open Go.RowKit

theorem Fresh.swap {B : Nat} {w : World} {a b c d : Value} (h : Fresh B w [a, b, c, d]) : Fresh B w [c, d, a, b] := h.perm (List.perm_append_comm (l₁ := [a, b]) (l₂ := [c, d]))
/-- Nothing is kept yet. -/
theorem kept_new (w : World) : Kept (w.alloc (.cells #[.slice none 0 0, .int .i64 0] 43 (0, 0))) w.heap.size w.heap.size (.slice none 0 0) 0 [] :=
  ⟨heap_alloc_new w _, Nat.le_refl _, World.ownsRow_nil _ _ _ _, Nat.le_refl _, by omega, fun _ h => absurd h (by simp), List.Pairwise.nil⟩
theorem short_nil : Short [] := fun _ h => absurd h (by simp)
/-- The list of what is kept, as a slice. -/
theorem kept_slice {w : World} {kb lo z : Nat} {lv : Value} {xs : List Value} (h : Kept w kb lo lv z xs) : ∃ ao c, lv = .slice ao xs.length c := by
  rcases h.list.2 with ⟨rfl, h0⟩ | ⟨g, cap, _, rfl, _⟩
  · exact ⟨none, 0, by rw [h0]⟩
  · exact ⟨_, cap, rfl⟩
theorem apart_any {w : World} {kb lo z : Nat} {lv : Value} {xs : List Value} (h : Kept w kb lo lv z xs) (hS : Short xs) (hlo : lo ≤ w.heap.size) :
    Calls Try.prog 27 #[.pointer (some ⟨kb, 0, none⟩)] w fun e w' => e = .returned (.bool true) ∧ Below lo w w' := by
  obtain ⟨ao, c, rfl⟩ := kept_slice h
  exact apart kb lo ao xs.length c z xs w h rfl hS hlo

set_option maxHeartbeats 4000000 in
set_option maxRecDepth 100000 in
theorem wire_apart (a : Option Addr) (U : List (BitVec 64)) (ca : Nat) (s : Option Addr) (L : List (List (BitVec 8))) (cs : Nat) (w : World)
    (hU : U64sAt w a U) (hL : ListsAt w s L) (lU : U.length ≤ 17592186043904) (lL : L.length ≤ 5864062014806) :
    Calls Try.prog 6 #[.slice a U.length ca, .slice s L.length cs] w (TrueBelow w) := by
  have HU := Lib.hid hU
  have HL := Lib.hid hL
  clear hU hL
  go_enter Try.func6, Try.ntmps6
  go_wp2_with fail
  refine (wire_begun _).mono ?_
  rintro e w1 ⟨rfl, hb⟩
  have B1 := Lib.hid hb
  clear hb
  have K1 := Lib.hid (kept_new w1)
  have Z1 := Lib.hid (show w1.heap.size ≤ (w1.alloc (.cells #[.slice none 0 0, .int .i64 0] 43 (0, 0))).heap.size from (below_alloc w1 _).size)
  have A1 := Lib.hid (below_alloc w1 (.cells #[.slice none 0 0, .int .i64 0] 43 (0, 0)))
  go_wp2_with fail
  go_loopw [6] (fun i wr => ∃ (k : Nat) (lv : Value) (z : Nat) (xs : List Value), k ≤ U.length ∧ i = .int .i64 k ∧ Kept wr w1.heap.size w1.heap.size lv z xs ∧ Hid (Short xs) ∧ Below w1.heap.size w1 wr) (fun i _ => U.length - (intOf i).toNat)
  case atStart => exact ⟨0, _, 0, [], by omega, rfl, K1.out, Lib.hid short_nil, A1.out⟩
  case round =>
    obtain ⟨k, lv, z, xs, hk, rfl, hK, hS, hb⟩ := hrel
    have HK := Lib.hid hK
    have HB := Lib.hid hb
    clear hK hb
    by_cases hlt : k < U.length
    · obtain ⟨bu, ou, rfl, hc⟩ := (HU.out.below (below_trans B1.out HB.out)) k hlt
      obtain ⟨u, hu⟩ : ∃ u, at64 U k = u := ⟨_, rfl⟩
      rw [hu] at hc
      clear hu
      have HC := Lib.hid hc
      have VL := Lib.hid (varint_len u)
      have q0 : ∀ p : In (fun w' => w'.cell? ⟨bu, ou + k, none⟩ = some (.int .u64 (bv u))), p.w.cell? ⟨bu, ou + k, none⟩ = some (.int .u64 (bv u)) := fun p => p.h
      clear hc
      go_wp2_with fail
      refine wp_region_mixed [0, 1, 2, 3, 4, 6, 7, 8, 9, 11, 12, 13, 14, 15, 17, 18, 19, 20, 21, 23, 24, 25, 26, 28, 29, 30, 31, 5, 10, 16, 22, 27, 32, 33, 34] (fun w' => w'.cell? ⟨bu, ou + k, none⟩ = some (.int .u64 (bv u))) (by kernel_rfl) (by kernel_rfl) (by intro c a d v w h; cases d <;> exact h) HC.out ?_
      intro hne
      simp only [pick, List.map_cons, List.map_nil, List.getD_cons_zero, List.getD_cons_succ]
      refine wpMix_reads 27 _ (by kernel_rfl) ?_
      simp only [List.take_succ_cons, List.take_zero, List.drop_succ_cons, List.drop_zero]
      repeat (go_big_quiet_step (fail))
      refine wpQuiet_nil ?_
      have F0 := Lib.hid (Fresh.nil wr.drew)
      have B0 := Lib.hid (below_drew wr)
      have C0 := Lib.hid (show (World.drew wr).cell? ⟨bu, ou + k, none⟩ = _ from HC.out)
      refine wpMix_act rfl ?_ rfl
      go_wp2_with fail
      refine (wire_varint u _).mono ?_
      rintro e w2 ⟨v1, rfl, hO, hb⟩
      obtain ⟨a1, c1, hv, -, -, -, -, -⟩ := hO.slice
      subst hv
      have F1 := Lib.hid (F0.out.snoc hb hO (by have := VL.out; omega))
      have D1 := Lib.hid (below_trans B0.out hb)
      have C1 := Lib.hid (cell_keep hb C0.out)
      clear hO hb
      go_wp2_with fail
      refine ⟨⟨⟨_, C1.out⟩, rfl⟩, ?_⟩
      refine wpMix_act rfl ?_ rfl
      go_wp2_with fail
      refine (wire_varint u _).mono ?_
      rintro e w3 ⟨v2, rfl, hO, hb⟩
      obtain ⟨a2, c2, hv, -, -, -, -, -⟩ := hO.slice
      subst hv
      have F2 := Lib.hid (F1.out.snoc hb hO (by have := VL.out; omega))
      have D2 := Lib.hid (below_trans D1.out hb)
      have C2 := Lib.hid (cell_keep hb C1.out)
      clear hO hb
      go_wp2_with fail
      refine ⟨⟨⟨_, C2.out⟩, rfl⟩, ?_⟩
      refine wpMix_act rfl ?_ rfl
      go_wp2_with fail
      refine (fixed32_own _ _).mono ?_
      rintro e w4 ⟨v3, b3, rfl, hO, hl, hb⟩
      obtain ⟨a3, c3, hv, -, -, -, -, -⟩ := hO.slice
      subst hv
      have F3 := Lib.hid (F2.out.snoc hb hO (by omega))
      have D3 := Lib.hid (below_trans D2.out hb)
      have C3 := Lib.hid (cell_keep hb C2.out)
      clear hO hb hl
      go_wp2_with fail
      refine ⟨⟨⟨_, C3.out⟩, rfl⟩, ?_⟩
      refine wpMix_act rfl ?_ rfl
      go_wp2_with fail
      refine (fixed32_own _ _).mono ?_
      rintro e w5 ⟨v4, b4, rfl, hO, hl, hb⟩
      obtain ⟨a4, c4, hv, -, -, -, -, -⟩ := hO.slice
      subst hv
      have F4 := Lib.hid (F3.out.snoc hb hO (by omega))
      have D4 := Lib.hid (below_trans D3.out hb)
      have C4 := Lib.hid (cell_keep hb C3.out)
      clear hO hb hl
      go_wp2_with fail
      refine ⟨⟨⟨_, C4.out⟩, rfl⟩, ?_⟩
      refine wpMix_act rfl ?_ rfl
      go_wp2_with fail
      refine (fixed64_own u _).mono ?_
      rintro e w6 ⟨v5, b5, rfl, hO, hl, hb⟩
      obtain ⟨a5, c5, hv, -, -, -, -, -⟩ := hO.slice
      subst hv
      have F5 := Lib.hid (F4.out.snoc hb hO (by omega))
      have D5 := Lib.hid (below_trans D4.out hb)
      have C5 := Lib.hid (cell_keep hb C4.out)
      clear hO hb hl
      go_wp2_with fail
      refine ⟨⟨⟨_, C5.out⟩, rfl⟩, ?_⟩
      refine wpMix_act rfl ?_ rfl
      go_wp2_with fail
      refine (fixed64_own u _).mono ?_
      rintro e w7 ⟨v6, b6, rfl, hO, hl, hb⟩
      obtain ⟨a6, c6, hv, -, -, -, -, -⟩ := hO.slice
      subst hv
      have F6 := Lib.hid (F5.out.snoc hb hO (by omega))
      have D6 := Lib.hid (below_trans D5.out hb)
      have C6 := Lib.hid (cell_keep hb C5.out)
      clear hO hb hl
      go_wp2_with fail
      refine ⟨⟨⟨_, C6.out⟩, rfl⟩, ?_⟩
      have hbA : Below w7.heap.size w7 (w7.alloc (.cells #[.slice a1 (varint u).length c1, .slice a2 (varint u).length c2, .slice a3 b3.length c3, .slice a4 b4.length c4, .slice a5 b5.length c5, .slice a6 b6.length c6] 25 (0, 0))) := below_alloc _ _
      have CM := Lib.hid (show Come (w7.alloc (.cells #[.slice a1 (varint u).length c1, .slice a2 (varint u).length c2, .slice a3 b3.length c3, .slice a4 b4.length c4, .slice a5 b5.length c5, .slice a6 b6.length c6] 25 (0, 0))) w1.heap.size w7.heap.size xs [.slice a1 (varint u).length c1, .slice a2 (varint u).length c2, .slice a3 b3.length c3, .slice a4 b4.length c4, .slice a5 b5.length c5, .slice a6 b6.length c6] 0 from F6.out.come HK.out (Nat.le_refl _) HB.out.size)
      have K7 := Lib.hid (HK.out.keep (below_trans D6.out hbA))
      have B7 := Lib.hid (HB.out.trans ((below_trans D6.out hbA).mono HB.out.size))
      have C7 := Lib.hid (cell_keep hbA C6.out)
      have KB := Lib.hid (show w1.heap.size ≠ w7.heap.size by have := heap_lt HK.out.box; have := D6.out.size; omega)
      have KL := Lib.hid (show lv.ownBlock ≠ some w7.heap.size from fun e => by obtain ⟨_, _, hc⟩ := rows_blk HK.out.list e; have := heap_lt hc; have := D6.out.size; omega)
      have HBU := Lib.hid (show bu < w1.heap.size from Nat.lt_of_lt_of_le (block_lt_of_cell (show w.cell? ⟨bu, ou + k, none⟩ = _ from (HU.out k hlt).choose_spec.choose_spec.2 |> fun h => by
        obtain ⟨b', o', e, hc⟩ := HU.out k hlt
        injection e with e; injection e with e1 e2; subst e1 e2
        exact hc)) B1.out.size)
      clear hbA
      refine wpMix_act rfl ?_ rfl
      go_wp2_with fail
      refine ⟨⟨⟨_, C7.out⟩, rfl⟩, ?_⟩
      refine wpMix_act rfl ?_ rfl
      go_wp2_with fail
      refine (keep w1.heap.size w1.heap.size w7.heap.size 6 lv z xs [.slice a1 (varint u).length c1, .slice a2 (varint u).length c2, .slice a3 b3.length c3, .slice a4 b4.length c4, .slice a5 b5.length c5, .slice a6 b6.length c6] _ K7.out CM.out KB.out KL.out (by simp) B7.out.size hS.out).mono ?_
      rintro e w8 ⟨rfl, lv', z', xs', hK, hB, -, -, hS'⟩
      have K8 := Lib.hid hK
      have B8 := Lib.hid (B7.out.trans hB)
      have S8 := Lib.hid hS'
      have C8 := Lib.hid ((hB.cell (p := ⟨bu, ou + k, none⟩) HBU.out).trans C7.out)
      clear hK hB hS'
      go_wp2_with fail
      refine ⟨⟨⟨_, C8.out⟩, rfl⟩, ?_⟩
      refine wpMix_nil ?_
      clear hne q0
      go_wp2_with fail
      go_roundw
      case rel => exact ⟨k + 1, lv', z', xs', by omega, by go_num, K8.out, S8, B8.out⟩
      case measure => simp [intOf]; omega
    · have hge : (U.length : Int) ≤ (k : Int) := by omega
      obtain rfl : k = U.length := by omega
      go_wp2_with fail
      obtain ⟨wo, rfl⟩ : ∃ wo : World, wo = wr := ⟨_, rfl⟩
      go_loopw [7, 8, 9, 10, 11, 12, 13] (fun i _ _ _ _ _ _ wr => ∃ (k : Nat) (lv : Value) (z : Nat) (xs : List Value), k ≤ L.length ∧ i = .int .i64 k ∧ Kept wr w1.heap.size w1.heap.size lv z xs ∧ Hid (Short xs) ∧ Below w1.heap.size w1 wr) (fun i _ _ _ _ _ _ _ => L.length - (intOf i).toNat)
      case atStart => exact ⟨0, lv, z, xs, by omega, rfl, HK.out, hS, HB.out⟩
      case round =>
       clear HK HB hS
       obtain ⟨k, lv, z, xs, hk, rfl, hK, hS, hb⟩ := hrel
       have HK := Lib.hid hK
       have HB := Lib.hid hb
       clear hK hb
       by_cases hlt : k < L.length
       · obtain ⟨bl, ol, ai, ci, rfl, hc0, hbs, hnil, hle, hci⟩ := HL.out k hlt
         have HBL := Lib.hid (show bl < w1.heap.size from Nat.lt_of_lt_of_le (block_lt_of_cell hc0) B1.out.size)
         have D0 := Lib.hid (below_trans B1.out HB.out)
         have HBS := Lib.hid hbs
         have HNil := Lib.hid hnil
         have hc := cell_keep D0.out hc0
         have RL := Lib.hid (rs_len (nth L k) 1048576 (by omega))
         have WL := Lib.hid (show (wstr (nth L k)).length ≤ 140737488355328 by
           have h1 := varint_len (BitVec.ofNat 64 (nth L k).length)
           unfold wstr; rw [List.length_append]; omega)
         have F0 := Lib.hid (Fresh.nil wr)
         have G0 := Lib.hid (Below.refl wr.heap.size wr)
         clear hbs hnil hc0
         go_wp2_with fail
         refine (read_string_to ai (nth L k) _ ci 1048576 _ _ (HBS.out.below D0.out) rfl hle HNil.out (by omega) (by omega) (by omega) rfl).mono ?_
         rintro e w2 ⟨v1, rfl, hO, hb⟩
         obtain ⟨a1, c1, hv, -, -, -, -, -⟩ := hO.slice
         subst hv
         have F1 := Lib.hid (F0.out.snoc hb hO (by have := RL.out; omega))
         have G1 := Lib.hid (below_trans G0.out hb)
         have D1 := Lib.hid (below_trans D0.out hb)
         have C1 := cell_keep hb hc
         clear hO hb hc
         go_wp2_with fail
         refine (read_string_to ai (nth L k) _ ci 1048576 _ _ (HBS.out.below D1.out) rfl hle HNil.out (by omega) (by omega) (by omega) rfl).mono ?_
         rintro e w3 ⟨v2, rfl, hO, hb⟩
         obtain ⟨a2, c2, hv, -, -, -, -, -⟩ := hO.slice
         subst hv
         have F2 := Lib.hid (F1.out.snoc hb hO (by have := RL.out; omega))
         have G2 := Lib.hid (below_trans G1.out hb)
         have D2 := Lib.hid (below_trans D1.out hb)
         have C2 := cell_keep hb C1
         clear hO hb C1
         have q0 : ∀ p : In (fun w' => w'.cell? ⟨bl, ol + k, none⟩ = some (.slice ai (nth L k).length ci)), p.w.cell? ⟨bl, ol + k, none⟩ = some (.slice ai (nth L k).length ci) := fun p => p.h
         have C2' := Lib.hid C2
         clear C2
         go_wp2_with fail
         refine wp_region_mixed [0, 1, 2, 3, 4, 6, 7, 8, 9, 11, 12, 5, 10, 13, 14] (fun w' => w'.cell? ⟨bl, ol + k, none⟩ = some (.slice ai (nth L k).length ci)) (by kernel_rfl) (by kernel_rfl) (by intro c a d v w h; cases d <;> exact h) C2'.out ?_
         intro hne
         simp only [pick, List.map_cons, List.map_nil, List.getD_cons_zero, List.getD_cons_succ]
         refine wpMix_reads 11 _ (by kernel_rfl) ?_
         simp only [List.take_succ_cons, List.take_zero, List.drop_succ_cons, List.drop_zero]
         repeat (go_big_quiet_step (fail))
         refine wpQuiet_nil ?_
         have F2d := Lib.hid (F2.out.keep (below_drew _))
         have D2d := Lib.hid (below_trans D2.out (below_drew _))
         have C2d := Lib.hid (show (World.drew w3).cell? ⟨bl, ol + k, none⟩ = _ from C2'.out)
         refine wpMix_act rfl ?_ rfl
         go_wp2_with fail
         refine (wire_string ai (nth L k) ci _ (HBS.out.below D2d.out) HNil.out (by omega)).mono ?_
         rintro e w4 ⟨v3, rfl, hO, hb⟩
         obtain ⟨a3, c3, hv, -, -, -, -, -⟩ := hO.slice
         subst hv
         have F3 := Lib.hid (F2d.out.snoc hb hO (by have := WL.out; omega))
         have G3 := Lib.hid (below_trans (below_trans G2.out (below_drew _)) hb)
         have D3 := Lib.hid (below_trans D2d.out hb)
         have C3 := Lib.hid (cell_keep hb C2d.out)
         clear hO hb
         go_wp2_with fail
         refine ⟨⟨⟨_, C3.out⟩, rfl⟩, ?_⟩
         refine wpMix_act rfl ?_ rfl
         go_wp2_with fail
         refine (wire_string ai (nth L k) ci _ (HBS.out.below D3.out) HNil.out (by omega)).mono ?_
         rintro e w5 ⟨v4, rfl, hO, hb⟩
         obtain ⟨a4, c4, hv, -, -, -, -, -⟩ := hO.slice
         subst hv
         have F4 := Lib.hid (F3.out.snoc hb hO (by have := WL.out; omega))
         have G4 := Lib.hid (below_trans G3.out hb)
         have D4 := Lib.hid (below_trans D3.out hb)
         have C4 := Lib.hid (cell_keep hb C3.out)
         clear hO hb
         go_wp2_with fail
         refine ⟨⟨⟨_, C4.out⟩, rfl⟩, ?_⟩
         have FP := Lib.hid (show Fresh wr.heap.size w5 [.slice a3 (wstr (nth L k)).length c3, .slice a4 (wstr (nth L k)).length c4, .slice a1 (rs (nth L k) 1048576).1.length c1, .slice a2 (rs (nth L k) 1048576).1.length c2] from Fresh.swap F4.out)
         have hbA : Below w5.heap.size w5 (w5.alloc (.cells #[.slice a3 (wstr (nth L k)).length c3, .slice a4 (wstr (nth L k)).length c4, .slice a1 (rs (nth L k) 1048576).1.length c1, .slice a2 (rs (nth L k) 1048576).1.length c2] 25 (0, 0))) := below_alloc _ _
         have CM := Lib.hid (show Come (w5.alloc (.cells #[.slice a3 (wstr (nth L k)).length c3, .slice a4 (wstr (nth L k)).length c4, .slice a1 (rs (nth L k) 1048576).1.length c1, .slice a2 (rs (nth L k) 1048576).1.length c2] 25 (0, 0))) w1.heap.size w5.heap.size xs [.slice a3 (wstr (nth L k)).length c3, .slice a4 (wstr (nth L k)).length c4, .slice a1 (rs (nth L k) 1048576).1.length c1, .slice a2 (rs (nth L k) 1048576).1.length c2] 0 from FP.out.come HK.out (Nat.le_refl _) HB.out.size)
         have E5 := Lib.hid (show Below wr.heap.size wr w5 from G4.out)
         have K7 := Lib.hid (HK.out.keep (below_trans E5.out hbA))
         have B7 := Lib.hid (HB.out.trans ((below_trans E5.out hbA).mono HB.out.size))
         have C7 := Lib.hid (cell_keep hbA C4.out)
         have KB := Lib.hid (show w1.heap.size ≠ w5.heap.size by have := heap_lt HK.out.box; have := E5.out.size; omega)
         have KL := Lib.hid (show lv.ownBlock ≠ some w5.heap.size from fun e => by obtain ⟨_, _, hc⟩ := rows_blk HK.out.list e; have := heap_lt hc; have := E5.out.size; omega)
         clear hbA
         refine wpMix_act rfl ?_ rfl
         go_wp2_with fail
         refine ⟨⟨⟨_, C7.out⟩, rfl⟩, ?_⟩
         refine wpMix_act rfl ?_ rfl
         go_wp2_with fail
         refine (keep w1.heap.size w1.heap.size w5.heap.size 4 lv z xs [.slice a3 (wstr (nth L k)).length c3, .slice a4 (wstr (nth L k)).length c4, .slice a1 (rs (nth L k) 1048576).1.length c1, .slice a2 (rs (nth L k) 1048576).1.length c2] _ K7.out CM.out KB.out KL.out (by simp) B7.out.size hS.out).mono ?_
         rintro e w8 ⟨rfl, lv', z', xs', hK, hB, -, -, hS'⟩
         have K8 := Lib.hid hK
         have B8 := Lib.hid (B7.out.trans hB)
         have S8 := Lib.hid hS'
         have C8 := Lib.hid ((hB.cell (p := ⟨bl, ol + k, none⟩) HBL.out).trans C7.out)
         clear hK hB hS'
         go_wp2_with fail
         refine ⟨⟨⟨_, C8.out⟩, rfl⟩, ?_⟩
         refine wpMix_nil ?_
         clear hne q0
         go_wp2_with fail
         go_roundw
         case rel => exact ⟨k + 1, lv', z', xs', by omega, by go_num, K8.out, S8, B8.out⟩
         case measure => simp [intOf]; omega
       · have hge : (L.length : Int) ≤ (k : Int) := by omega
         go_wp2_with fail
         refine (apart_any HK.out hS.out HB.out.size).mono ?_
         rintro e w2 ⟨rfl, hb2⟩
         have B2 := Lib.hid (HB.out.trans hb2)
         clear hb2
         go_wp2_with fail
         go_ret
         exact ⟨rfl, below_trans B1.out B2.out⟩
end Go.Proofs.Ytggbhakkgbfneaa

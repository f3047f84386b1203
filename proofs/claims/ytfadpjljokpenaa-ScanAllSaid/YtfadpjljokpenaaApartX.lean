/- Apart once more: what is no row of cells lies as it lay. -/
import Derived.Test.YtfadpjljokpenaaApart
namespace Go.Proofs.Ytfadpjljokpenaa
open Go.RowKit

/-- Old blocks below a bound, and all that is no row of cells, lie as they lay. -/
structure BelowN (lo : Nat) (w w' : World) : Prop where
  b : Below lo w w'
  nc : ∀ (p : Nat) (o : Obj), w.heap[p]? = some o → (∀ cur t fr, o ≠ .cells cur t fr) → w'.heap[p]? = some o
section
variable {lo : Nat} {w w1 w2 : World}
theorem BelowN.refl (lo : Nat) (w : World) : BelowN lo w w := ⟨Below.refl _ _, fun _ _ h _ => h⟩
theorem BelowN.size (h : BelowN lo w w1) : w.heap.size ≤ w1.heap.size := h.b.size
theorem BelowN.then_ (h : BelowN lo w w1) (hb : Below w1.heap.size w1 w2) (hl : lo ≤ w1.heap.size) : BelowN lo w w2 :=
  ⟨h.b.trans (hb.mono hl), fun p o hp ho => (hb.block p (heap_lt (h.nc p o hp ho))).trans (h.nc p o hp ho)⟩
theorem BelowN.drew (h : BelowN lo w w1) : BelowN lo w w1.drew := ⟨h.b.drew, h.nc⟩
theorem BelowN.grown (h : BelowN lo w w1) {row : Option Nat} (hg : w1.grownBy w2 row) (hl : lo ≤ w1.heap.size) (hr : ∀ k, row = some k → lo ≤ k ∧ ∃ cur e, w1.heap[k]? = some (.cells cur e (0, 0))) : BelowN lo w w2 :=
  ⟨h.b.grown hg hl (fun k hk => (hr k hk).1), fun p o hp ho => by
    have h1 := h.nc p o hp ho
    refine (hg.block p (heap_lt h1) (fun e => ?_)).trans h1
    obtain ⟨_, cur, t, hc⟩ := hr p e.symm
    exact ho _ _ _ (Option.some.inj (h1.symm.trans hc))⟩
theorem BelowN.setCell (h : BelowN lo w w1) {p : Addr} (hp : lo ≤ p.block) (v : Value) : BelowN lo w (w1.setCell p v) :=
  ⟨h.b.setCell hp v, fun q o hq ho => by
    have h1 := h.nc q o hq ho
    by_cases e : q = p.block
    · subst e
      cases o <;> first | exact (ho _ _ _ rfl).elim | simp [World.setCell, Array.getElem?_modify, h1]
    · exact (Below.heap_setCell _ _ _ _ e).trans h1⟩
end

set_option maxHeartbeats 4000000 in
set_option maxRecDepth 100000 in
theorem apart_x (kb lo : Nat) (ao : Option Addr) (N c z : Nat) (xs0 : List Value) (w : World) (hK : Kept w kb lo (.slice ao N c) z xs0) (hN : xs0.length = N) (hS : Short xs0) (hlo : lo ≤ w.heap.size) :
    Calls Try.prog 24 #[.pointer (some ⟨kb, 0, none⟩)] w fun e w' => e = .returned (.bool true) ∧ BelowN lo w w' := by
  have HK := Lib.hid hK
  have HN := Lib.hid hN
  have hNm : N ≤ 4194304 := by have := hK.len; have := hK.room; omega
  have HL0 : Hid (∀ (j : Nat) (a : Option Addr) (n c : Nat), xs0[j]? = some (.slice a n c) → n ≤ 4194304) := Lib.hid fun j a n c hj => hS _ (List.mem_of_getElem? hj) a n c rfl
  clear hK hN hS
  go_enter Try.func24, Try.ntmps24
  go_wp2_with fail
  go_loopw [3, 4, 5, 6, 7, 8] (fun sc _ _ _ _ _ wr => ∃ (s Bd : Nat) (xs : List Value), (s = 1 ∧ Bd = 4194304 ∨ s = 250 ∧ Bd = 4199304 ∨ s = 62500 ∧ Bd = 4204304) ∧ sc = .int .i64 s ∧ Kept wr kb lo (.slice ao N c) z xs ∧ Hid (xs.length = N) ∧ BelowN lo w wr ∧ Hid (∀ (j : Nat) (a : Option Addr) (n c : Nat), xs[j]? = some (.slice a n c) → n ≤ Bd)) (fun sc _ _ _ _ _ _ => 62500 - (intOf sc).toNat)
  case atStart => exact ⟨1, 4194304, xs0, .inl ⟨rfl, rfl⟩, rfl, HK.out, HN, BelowN.refl _ _, HL0⟩
  case round =>
    obtain ⟨s, Bd, xs, hs, rfl, hK, hN, hB, hLn⟩ := hrel
    have HK1 := Lib.hid hK
    have HB1 := Lib.hid hB
    clear hK hB
    by_cases hs2 : s ≤ 250
    · have hs0 : (1 : Int) ≤ (s : Int) := by omega
      have hs3 : (s : Int) ≤ 250 := by omega
      have hBd : Bd ≤ 4199304 := by omega
      go_wp2_with fail
      obtain ⟨wo, rfl⟩ : ∃ wo : World, wo = wr := ⟨_, rfl⟩
      go_loopw [4, 5, 6] (fun i _ _ w2 => ∃ (t : Nat) (ys : List Value), t ≤ N ∧ i = .int .i64 t ∧ Kept w2 kb lo (.slice ao N c) z ys ∧ Hid (ys.length = N) ∧ BelowN lo w w2 ∧ Hid (Marked w2 lo s ys t) ∧ Hid (LenOk ys t Bd)) (fun i _ _ _ => N - (intOf i).toNat)
      case atStart => exact ⟨0, xs, by omega, rfl, HK1.out, hN, HB1.out, Lib.hid (fun j x hj => by omega), Lib.hid (fun j a n c hj => ⟨by have := hLn.out j a n c hj; omega, fun _ => hLn.out j a n c hj⟩)⟩
      case round =>
       obtain ⟨t, ys, ht, rfl, hK, hY, hB, hM, hLe⟩ := hrel
       have HK2 := Lib.hid hK
       have HB2 := Lib.hid hB
       clear hK hB
       have l0 := HK2.out.cell0
       by_cases hlt : t < N
       · obtain ⟨gl, hao⟩ := kept_list HK2.out hY.out (by omega)
         subst hao
         obtain ⟨g, bs, cap, hx, ho, hnc, hcm⟩ := kept_elem HK2.out (t := t) (by rw [hY.out]; exact hlt)
         obtain ⟨r, hr⟩ : ∃ r : Nat, r = min cap (bs.length + 5000) := ⟨_, rfl⟩
         have hmr : Hid ((r : Int) = min (cap : Int) ((bs.length : Int) + 5000)) := Lib.hid (by omega)
         have hbl : bs.length ≤ Bd := (hLe.out t _ _ _ hx).2 (Nat.le_refl _)
         have hrB : r ≤ Bd + 5000 := by omega
         have hbr : bs.length ≤ r := by omega
         have k0 := cell_regrown l0
         have k1 := cell_regrown (kept_cell HK2.out hY.out hx)
         have HX := Lib.hid hx
         clear ho hx hr
         go_wp2_with fail
         refine wp_region_quiet_below (by kernel_rfl) (by kernel_rfl) ?_
         repeat (go_big_quiet_step (first | (go_at_call 67; exact same_quiet (room_to _ _ (r : Int) _ (by omega) (by omega) hmr.out))))
         refine wpQuiet_nil ?_
         intro w3 hw3
         obtain ⟨⟨nq, osq⟩, hw3'⟩ := hw3
         have hb3 : Below wr.heap.size wr w3 := by rw [hw3']; exact below_regrown _ _ _
         have K3 := Lib.hid (HK2.out.keep hb3)
         have B3 := Lib.hid (HB2.out.then_ hb3 (Nat.le_trans hlo HB2.out.size))
         have M3 : Hid (Marked w3 lo s ys t) := Lib.hid fun j x hj hx => let ⟨n, hn⟩ := hM.out j x hj hx; ⟨n, hn.keep hb3⟩
         have L3 : Hid (LenOk ys (t + 1) Bd) := Lib.hid fun j a n c hj => ⟨(hLe.out j a n c hj).1, fun h => (hLe.out j a n c hj).2 (by omega)⟩
         clear hw3' k0 k1 hb3 l0
         go_wp2_with fail
         obtain ⟨wo, rfl⟩ : ∃ wo : World, wo = wr := ⟨_, rfl⟩
         go_loopw [62] (fun _ w4 => ∃ (ys : List Value) (m g cap : Nat), Kept w4 kb lo (.slice (some ⟨gl, 0, none⟩) N c) z ys ∧ Hid (ys.length = N) ∧ BelowN lo w w4 ∧ Hid (Marked w4 lo s ys t) ∧ Hid (LenOk ys (t + 1) Bd) ∧ Hid (ys[t]? = some (.slice (some ⟨g, 0, none⟩) m cap)) ∧ m ≤ r) (fun _ w4 => r - elemLen w4 gl t)
         case atStart => exact ⟨ys, bs.length, g, cap, K3.out, hY, B3.out, M3, L3, HX, hbr⟩
         case round =>
          clear HX hY hM hLe M3 K3 L3 HK2 HB2 hbr hbl hnc hcm hmr
          obtain ⟨ys, m, g, cap, hK, hY, hB, hM, hLe, hX, hmr⟩ := hrel
          have HK4 := Lib.hid hK
          have HB4 := Lib.hid hB
          clear hK hB
          have l0 := HK4.out.cell0
          have lc := kept_cell HK4.out hY.out hX.out
          by_cases hlm : m < r
          · obtain ⟨bs, ho, hbm⟩ : ∃ bs, OwnB wr lo (.slice (some ⟨g, 0, none⟩) m cap) bs ∧ bs.length = m := by
              obtain ⟨g', bs', cap', hx', ho', _⟩ := kept_elem HK4.out (t := t) (by rw [hY.out]; exact hlt)
              have e := Option.some.inj (hX.out.symm.trans hx')
              injection e with e1 e2 e3
              injection e1 with e1; injection e1 with e1
              subst e1 e2 e3
              exact ⟨bs', ho', rfl⟩
            have HO := Lib.hid ho
            have HBM := Lib.hid hbm
            have q0 : ∀ p : In (fun w' => w'.cell? ⟨kb, 0, none⟩ = some (.slice (some ⟨gl, 0, none⟩) N c) ∧ w'.cell? ⟨gl, t, none⟩ = some (.slice (some ⟨g, 0, none⟩) m cap)), p.w.cell? ⟨kb, 0, none⟩ = some (.slice (some ⟨gl, 0, none⟩) N c) := fun p => p.h.1
            have q1 : ∀ p : In (fun w' => w'.cell? ⟨kb, 0, none⟩ = some (.slice (some ⟨gl, 0, none⟩) N c) ∧ w'.cell? ⟨gl, t, none⟩ = some (.slice (some ⟨g, 0, none⟩) m cap)), p.w.cell? ⟨gl, t, none⟩ = some (.slice (some ⟨g, 0, none⟩) m cap) := fun p => p.h.2
            have L0 := Lib.hid l0
            have LC := Lib.hid lc
            have hm8 : m ≤ 4204304 := by omega
            clear ho hbm
            go_wp2_with fail
            refine wp_region_mixed_tail [0, 1, 2, 3, 4, 5, 6, 7, 8, 9, 10, 11, 12, 13, 14] 15 (fun w' => w'.cell? ⟨kb, 0, none⟩ = some (.slice (some ⟨gl, 0, none⟩) N c) ∧ w'.cell? ⟨gl, t, none⟩ = some (.slice (some ⟨g, 0, none⟩) m cap)) (by kernel_rfl) (by kernel_rfl) (by intro c a d v w h; cases d <;> exact h) ⟨L0.out, LC.out⟩ ?_
            intro hne
            simp only [pick, List.map_cons, List.map_nil, List.getD_cons_zero, List.getD_cons_succ, List.drop_succ_cons, List.drop_zero]
            refine wpMix_reads 12 _ (by kernel_rfl) ?_
            simp only [List.take_succ_cons, List.take_zero, List.drop_succ_cons, List.drop_zero]
            repeat (go_big_quiet_step (fail))
            refine wpQuiet_nil ?_
            have hbA : Below wr.heap.size wr (wr.drew.alloc (.cells #[.int .u8 0] 5 (0, 0))) := below_trans (below_drew _) (below_alloc _ _)
            have K5 := Lib.hid (HK4.out.keep hbA)
            have B5 := Lib.hid (HB4.out.then_ hbA (Nat.le_trans hlo HB4.out.size))
            have O5 := Lib.hid (HO.out.keep hbA)
            have M5 : Hid (Marked (wr.drew.alloc (.cells #[.int .u8 0] 5 (0, 0))) lo s ys t) := Lib.hid fun j x hj hx => let ⟨n, hn⟩ := hM.out j x hj hx; ⟨n, hn.keep hbA⟩
            have NW := Lib.hid (news_one wr.drew (.int .u8 0) 5 (0, 0))
            clear hbA l0 lc
            refine wpMix_act rfl ?_ rfl
            go_wp2_with fail
            refine ⟨⟨⟨_, ⟨K5.out.cell0, kept_cell K5.out hY.out hX.out⟩⟩, rfl⟩, ?_⟩
            refine wpMix_act rfl ?_ rfl
            obtain ⟨i0, hi, hz0, hz1, hz2⟩ := info_parts Try.infoByte
            have HI := Lib.hid hi
            have HZ0 := Lib.hid hz0
            have HZ1 := Lib.hid hz1
            have HZ2 := Lib.hid hz2
            clear hi hz0 hz1 hz2
            refine wpList_append_lies _ (o := ⟨some 62, _, _, _, _, _⟩) rfl _ _ 31 rfl lo 5 i0 (.int .u8 0) 1 1 Try.underlying31 HI.out HZ0.out HZ1.out HZ2.out rfl (by decide) (.slice (some ⟨g, 0, none⟩) m cap) m (bvals bs) rfl (HBM.out ▸ O5.out) ⟨wr.heap.size, 0, none⟩ 1 1 [.int .u8 0] rfl rfl NW.out (fun u hu => by obtain rfl := List.mem_singleton.1 hu; rfl) (by decide) (by simp only [maxLen]; omega) (by omega) (Nat.le_trans hlo B5.out.size) _ rfl ?_
            intro g6 cap6 w6 ho6 hg6 hat hl6
            have O6 : OwnB w6 lo (.slice (some ⟨g6, 0, none⟩) (m + 1) cap6) (bs ++ [0#8]) := by
              unfold OwnB
              rw [List.length_append, HBM.out, bvals_append]
              exact ho6
            obtain ⟨T1, T2, T3⟩ := K5.out.turn hY.out hX.out O6 rfl hat hg6
            obtain ⟨gne, gel⟩ := K5.out.list_ne (g := gl) rfl
            have hkb := hg6.block kb (heap_lt K5.out.box) (fun e => K5.out.box_ne O5.out (HBM.out ▸ e.symm))
            have hglw := hg6.block gl (block_lt_of_cell (kept_cell K5.out hY.out hX.out)) (fun e => gel _ _ O5.out (HBM.out ▸ e.symm))
            have c0 : w6.cell? ⟨kb, 0, none⟩ = some (.slice (some ⟨gl, 0, none⟩) N c) := (World.cell?_of_block (a := ⟨kb, 0, none⟩) hkb).trans K5.out.cell0
            have c1 : w6.cell? ⟨gl, t, none⟩ = some (.slice (some ⟨g, 0, none⟩) m cap) := (World.cell?_of_block (a := ⟨gl, t, none⟩) hglw).trans (kept_cell K5.out hY.out hX.out)
            have f1 : w6.frozen? ⟨gl, t, none⟩ = false := (World.frozen?_of_block (a := ⟨gl, t, none⟩) hglw).trans (kept_free K5.out hY.out t)
            have K7 := Lib.hid T1
            have B7 := Lib.hid ((B5.out.grown hg6 (Nat.le_trans hlo B5.out.size) (fun k hk => let ⟨a, cur, b⟩ := rows_blk O5.out (HBM.out ▸ hk); ⟨a, cur, _, b⟩)).setCell (p := ⟨gl, t, none⟩) (rows_blk K5.out.list (g := gl) rfl).1 (.slice (some ⟨g6, 0, none⟩) (m + 1) cap6))
            have Y7 : Hid ((ys.set t (.slice (some ⟨g6, 0, none⟩) (m + 1) cap6)).length = N) := Lib.hid (by rw [List.length_set]; exact hY.out)
            have M7 : Hid (Marked (w6.setCell ⟨gl, t, none⟩ (.slice (some ⟨g6, 0, none⟩) (m + 1) cap6)) lo s (ys.set t (.slice (some ⟨g6, 0, none⟩) (m + 1) cap6)) t) := Lib.hid fun j x hj hx => by
              rw [List.getElem?_set_ne (by omega)] at hx
              obtain ⟨n, hn⟩ := M5.out j x hj hx
              exact ⟨n, T3 j x _ (by omega) hx hn⟩
            have L7 : Hid (LenOk (ys.set t (.slice (some ⟨g6, 0, none⟩) (m + 1) cap6)) (t + 1) Bd) := Lib.hid fun j a n c hj => by
              by_cases hjt : t = j
              · subst hjt
                rw [List.getElem?_set_self (by rw [hY.out]; exact hlt)] at hj
                injection hj with hj; injection hj with _ hj _
                exact ⟨by omega, fun h => by omega⟩
              · rw [List.getElem?_set_ne hjt] at hj
                exact hLe.out j a n c hj
            have X7 : Hid ((ys.set t (.slice (some ⟨g6, 0, none⟩) (m + 1) cap6))[t]? = some (.slice (some ⟨g6, 0, none⟩) (m + 1) cap6)) := Lib.hid (List.getElem?_set_self (by rw [hY.out]; exact hlt))
            have E7 : Hid (elemLen (w6.setCell ⟨gl, t, none⟩ (.slice (some ⟨g6, 0, none⟩) (m + 1) cap6)) gl t = m + 1) := Lib.hid (by unfold elemLen; rw [World.cell?_setCell_same _ _ _ c1])
            have E4 : Hid (elemLen wr gl t = m) := Lib.hid (by unfold elemLen; rw [LC.out])
            clear T1 T2 T3 gne gel hkb hglw O6 ho6 hg6 hat hl6 K5 B5 O5 M5 NW HI HZ0 HZ1 HZ2
            refine ⟨⟨⟨_, ⟨c0, c1⟩⟩, rfl⟩, ?_⟩
            refine wpMix_reads 1 _ (by kernel_rfl) ?_
            simp only [List.take_succ_cons, List.take_zero, List.drop_succ_cons, List.drop_zero, Act.put, List.setIfInBounds_toArray, List.set_cons_zero, List.set_cons_succ]
            repeat (go_big_quiet_step (fail))
            refine wpQuiet_nil ?_
            refine wpMix_nil ?_
            clear hne q0 q1 c0
            change wpList _ _ _ _ _ _
            go_wp2_with fail
            go_roundw
            case rel => exact ⟨_, m + 1, g6, cap6, K7.out, Y7, B7.out, M7, L7, X7, by omega⟩
            case measure => rw [E7.out, E4.out]; omega
          · have hge : (r : Int) ≤ (m : Int) := by omega
            obtain ⟨bs, ho, hbm⟩ : ∃ bs, OwnB wr lo (.slice (some ⟨g, 0, none⟩) m cap) bs ∧ bs.length = m := by
              obtain ⟨g', bs', cap', hx', ho', _⟩ := kept_elem HK4.out (t := t) (by rw [hY.out]; exact hlt)
              have e := Option.some.inj (hX.out.symm.trans hx')
              injection e with e1 e2 e3
              injection e1 with e1; injection e1 with e1
              subst e1 e2 e3
              exact ⟨bs', ho', rfl⟩
            have HO := Lib.hid ho
            have HBM := Lib.hid hbm
            have hm8 : m ≤ 4204304 := by omega
            clear ho hbm
            go_wp2_with fail
            obtain ⟨wo, rfl⟩ : ∃ wo : World, wo = wr := ⟨_, rfl⟩
            clear l0 lc
            go_loopw [6] (fun k w5 => ∃ (e : Nat) (bs : List (BitVec 8)), e ≤ m ∧ k = .int .i64 e ∧ Kept w5 kb lo (.slice (some ⟨gl, 0, none⟩) N c) z ys ∧ BelowN lo w w5 ∧ Hid (Marked w5 lo s ys t) ∧ Hid (OwnB w5 lo (.slice (some ⟨g, 0, none⟩) m cap) bs) ∧ Hid (bs.length = m) ∧ Hid (∀ j, j < e → bs[j]? = some (mk s t))) (fun k _ => m - (intOf k).toNat)
            case atStart => exact ⟨0, bs, by omega, rfl, HK4.out, HB4.out, hM, HO, HBM, Lib.hid (fun j hj => by omega)⟩
            case round =>
             clear HO HBM hM HK4 HB4
             obtain ⟨e, bs, he, rfl, hK, hB, hM, hO, hBM, hE⟩ := hrel
             have HK4 := Lib.hid hK
             have HB4 := Lib.hid hB
             clear hK hB
             have l0 := HK4.out.cell0
             have lc := kept_cell HK4.out hY.out hX.out
             by_cases hle : e < m
             · have q0 : ∀ p : In (fun w' => w'.cell? ⟨kb, 0, none⟩ = some (.slice (some ⟨gl, 0, none⟩) N c) ∧ w'.cell? ⟨gl, t, none⟩ = some (.slice (some ⟨g, 0, none⟩) m cap)), p.w.cell? ⟨kb, 0, none⟩ = some (.slice (some ⟨gl, 0, none⟩) N c) := fun p => p.h.1
               have q1 : ∀ p : In (fun w' => w'.cell? ⟨kb, 0, none⟩ = some (.slice (some ⟨gl, 0, none⟩) N c) ∧ w'.cell? ⟨gl, t, none⟩ = some (.slice (some ⟨g, 0, none⟩) m cap)), p.w.cell? ⟨gl, t, none⟩ = some (.slice (some ⟨g, 0, none⟩) m cap) := fun p => p.h.2
               have L0 := Lib.hid l0
               have LC := Lib.hid lc
               obtain ⟨hold, hfr⟩ := own_cell hO.out hBM.out hle
               have hs0 : (1 : Int) ≤ (s : Int) := by omega
               go_wp2_with fail
               refine wp_region_mixed_tail [0, 1, 2, 3, 4, 5, 6, 7, 8, 9, 10, 11, 12, 13] 14 (fun w' => w'.cell? ⟨kb, 0, none⟩ = some (.slice (some ⟨gl, 0, none⟩) N c) ∧ w'.cell? ⟨gl, t, none⟩ = some (.slice (some ⟨g, 0, none⟩) m cap)) (by kernel_rfl) (by kernel_rfl) (by intro c a d v w h; cases d <;> exact h) ⟨L0.out, LC.out⟩ ?_
               intro hne
               simp only [pick, List.map_cons, List.map_nil, List.getD_cons_zero, List.getD_cons_succ, List.drop_succ_cons, List.drop_zero]
               refine wpMix_reads 14 _ (by kernel_rfl) ?_
               simp only [List.take_succ_cons, List.take_zero, List.drop_succ_cons, List.drop_zero]
               repeat (go_big_quiet_step (fail))
               refine wpQuiet_nil ?_
               refine wpMix_nil ?_
               clear hne q0 q1 l0 lc
               change wpList _ _ _ _ _ _
               go_wp2_with fail
               obtain ⟨T1, T2, T3⟩ := HK4.out.mark hX.out hO.out hBM.out e (mk s t)
               rw [← mk_of s t (by omega)] at T1 T2 T3
               have hgl : lo ≤ g := (rows_blk hO.out (g := g) rfl).1
               go_roundw
               case rel => exact ⟨e + 1, bs.set e (mk s t), by omega, by go_num, T1.keep (below_drew _), ((HB4.out.setCell (p := ⟨g, e, none⟩) hgl _).drew), Lib.hid (fun j x hj hx => let ⟨n, hn⟩ := hM.out j x hj hx; ⟨n, (T3 j x _ (by omega) hx hn).keep (below_drew _)⟩), Lib.hid (T2.keep (below_drew _)), Lib.hid (by rw [List.length_set]; exact hBM.out), Lib.hid (fun j hj => by
                 by_cases hje : e = j
                 · subst hje
                   exact List.getElem?_set_self (by rw [hBM.out]; exact hle)
                 · rw [List.getElem?_set_ne hje]
                   exact hE.out j (by omega))⟩
               case measure => simp [intOf]; omega
             · have hge : (m : Int) ≤ (e : Int) := by omega
               have hem : e = m := by omega
               have HR : Hid (bs = List.replicate m (mk s t)) := Lib.hid (List.ext_getElem? fun j => by
                 rw [List.getElem?_replicate]
                 by_cases hj : j < m
                 · rw [if_pos hj]; exact hE.out j (by omega)
                 · rw [if_neg hj]; exact List.getElem?_eq_none (by rw [hBM.out]; omega))
               have M9 : Hid (Marked wr lo s ys (t + 1)) := Lib.hid fun j x hj hx => by
                 by_cases hjt : j = t
                 · subst hjt
                   have := Option.some.inj (hX.out.symm.trans hx)
                   subst this
                   exact ⟨m, HR.out ▸ hO.out⟩
                 · exact hM.out j x (by omega) hx
               clear hem
               go_wp2_with fail
               clear l0 lc
               go_roundw
               case rel => exact ⟨t + 1, ys, by omega, by go_num, HK4.out, hY, HB4.out, M9, hLe⟩
               case measure => simp [intOf]; omega
       · have hge : (N : Int) ≤ (t : Int) := by omega
         have e : N = t := by omega
         subst e
         go_wp2_with fail
         obtain ⟨wo, rfl⟩ : ∃ wo : World, wo = wr := ⟨_, rfl⟩
         clear l0
         go_loopw [7, 8] (fun i _ w5 => ∃ t : Nat, t ≤ N ∧ i = .int .i64 t ∧ Kept w5 kb lo (.slice ao N c) z ys ∧ BelowN lo w w5 ∧ Hid (Marked w5 lo s ys N)) (fun i _ _ => N - (intOf i).toNat)
         case atStart => exact ⟨0, by omega, rfl, HK2.out, HB2.out, hM⟩
         case round =>
          clear HK2 HB2 hM
          obtain ⟨t, ht, rfl, hK, hB, hM⟩ := hrel
          have HK2 := Lib.hid hK
          have HB2 := Lib.hid hB
          clear hK hB
          have l0 := HK2.out.cell0
          by_cases hlt : t < N
          · obtain ⟨gl, hao⟩ := kept_list HK2.out hY.out (by omega)
            subst hao
            obtain ⟨g, bs0, cap, hx, -, hnc, hcm⟩ := kept_elem HK2.out (t := t) (by rw [hY.out]; exact hlt)
            obtain ⟨m, hm⟩ : ∃ m, bs0.length = m := ⟨_, rfl⟩
            rw [hm] at hx hnc
            obtain ⟨m', hO⟩ := hM.out t _ hlt hx
            have hmm : m' = m := by
              rcases hO.2 with ⟨h0, _⟩ | ⟨_, _, _, h0, _⟩
              · cases h0
              · injection h0 with _ h0 _
                rw [List.length_replicate] at h0
                exact h0.symm
            have HX := Lib.hid hx
            have hmB : m ≤ Bd + 5000 := (hLe.out t _ _ _ hx).1
            clear hx hO hmm hm
            go_wp2_with fail
            obtain ⟨wo, rfl⟩ : ∃ wo : World, wo = wr := ⟨_, rfl⟩
            go_loopw [8] (fun k w5 => ∃ e : Nat, e ≤ m ∧ k = .int .i64 e ∧ Kept w5 kb lo (.slice (some ⟨gl, 0, none⟩) N c) z ys ∧ BelowN lo w w5 ∧ Hid (Marked w5 lo s ys N)) (fun k _ => m - (intOf k).toNat)
            case atStart => exact ⟨0, by omega, rfl, HK2.out, HB2.out, hM⟩
            case round =>
             clear HK2 HB2 hM l0
             obtain ⟨e, he, rfl, hK, hB, hM⟩ := hrel
             have HK2 := Lib.hid hK
             have HB2 := Lib.hid hB
             clear hK hB
             have l0 := HK2.out.cell0
             have lc := kept_cell HK2.out hY.out HX.out
             by_cases hle : e < m
             · obtain ⟨m', hO⟩ := hM.out t _ hlt HX.out
               have hmm : m' = m := by
                 rcases hO.2 with ⟨h0, _⟩ | ⟨_, _, _, h0, _⟩
                 · cases h0
                 · injection h0 with _ h0 _
                   rw [List.length_replicate] at h0
                   exact h0.symm
               subst hmm
               have hc := (own_cell hO (List.length_replicate ..) hle).1
               rw [show at8 (List.replicate m' (mk s t)) e = mk s t by rw [at8_get (by simpa using hle)]; simp] at hc
               rw [← mk_of s t (by omega)] at hc
               have k0 := cell_regrown l0
               have k1 := cell_regrown lc
               have k2 := cell_regrown hc
               have hs0 : (1 : Int) ≤ (s : Int) := by omega
               clear hO
               go_wp2_with fail
               refine wp_region_quiet_below (by kernel_rfl) (by kernel_rfl) ?_
               repeat (go_big_quiet_step (fail))
               refine wpQuiet_nil ?_
               intro w6 hw6
               obtain ⟨⟨nq, osq⟩, hw6'⟩ := hw6
               have hb6 : Below wr.heap.size wr w6 := by rw [hw6']; exact below_regrown _ _ _
               have K6 := Lib.hid (HK2.out.keep hb6)
               have B6 := Lib.hid (HB2.out.then_ hb6 (Nat.le_trans hlo HB2.out.size))
               have M6 : Hid (Marked w6 lo s ys N) := Lib.hid fun j x hj hx => let ⟨n, hn⟩ := hM.out j x hj hx; ⟨n, hn.keep hb6⟩
               clear hw6' k0 k1 k2 hb6 l0 lc hc
               go_wp2_with fail
               go_roundw
               case rel => exact ⟨e + 1, by omega, by go_num, K6.out, B6.out, M6⟩
               case measure => simp [intOf]; omega
             · have hge : (m : Int) ≤ (e : Int) := by omega
               go_wp2_with fail
               go_roundw
               case rel => exact ⟨t + 1, by omega, by go_num, HK2.out, HB2.out, hM⟩
               case measure => simp [intOf]; omega
          · have hge : (N : Int) ≤ (t : Int) := by omega
            go_wp2_with fail
            go_roundw
            case rel =>
              rcases hs with ⟨rfl, rfl⟩ | ⟨rfl, rfl⟩ | ⟨rfl, _⟩
              · exact ⟨250, 4199304, ys, .inr (.inl ⟨rfl, rfl⟩), by go_num, HK2.out, hY, HB2.out, Lib.hid fun j a n c hj => (hLe.out j a n c hj).1⟩
              · exact ⟨62500, 4204304, ys, .inr (.inr ⟨rfl, rfl⟩), by go_num, HK2.out, hY, HB2.out, Lib.hid fun j a n c hj => (hLe.out j a n c hj).1⟩
              · omega
            case measure => simp [intOf]; omega
    · have hs3 : (250 : Int) < (s : Int) := by omega
      go_wp2_with fail
      go_ret
      exact ⟨rfl, HB1.out⟩
end Go.Proofs.Ytfadpjljokpenaa

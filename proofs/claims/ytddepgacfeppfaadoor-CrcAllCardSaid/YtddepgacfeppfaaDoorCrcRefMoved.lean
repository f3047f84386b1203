/- The walks of the reference's do, moved, Join and Zeros. -/
import Derived.Test.YtddepgacfeppfaaDoorCrcMask
namespace Go.Proofs.YtddepgacfeppfaaDoor
open Go.RowKit

def sqList (f : Nat → BitVec 32) : List Value := (List.range 32).map (regAt f)
theorem sqList_length (f : Nat → BitVec 32) : (sqList f).length = 32 := by simp [sqList]
theorem sqList_size (f : Nat → BitVec 32) : (sqList f).toArray.size = 32 := sqList_length f
theorem sqList_get (f : Nat → BitVec 32) {i : Nat} (h : i < 32) : (sqList f)[i]? = some (regAt f i) := by simp [sqList, h]
theorem sqList_one (f : Nat → BitVec 32) : ∀ v ∈ sqList f, v.oneCell' = true := by
  intro v hv
  obtain ⟨i, _, rfl⟩ := List.mem_map.1 hv
  rfl
theorem sq_info (f : Nat → BitVec 32) : (Tryd.prog.info? 46).map (·.size) = some (sqList f).length := by rw [sqList_length]; kernel_rfl
theorem rangeAt_sq {w : World} {b : Nat} {f : Nat → BitVec 32} (h : SqAt w b f) : w.rangeAt b 0 (sqList f) := fun j v hv => by
  have hj : j < 32 := by have := (List.getElem?_eq_some_iff.1 hv).1; rwa [sqList_length] at this
  rw [Nat.zero_add, h j hj, ← hv, sqList_get f hj]; rfl
theorem sq_rangeAt {w : World} {b : Nat} {f : Nat → BitVec 32} (h : w.rangeAt b 0 (sqList f)) : SqAt w b f := fun j hj => by
  have := h j _ (sqList_get f hj)
  rw [Nat.zero_add] at this; exact this
theorem sq_new (w : World) (f : Nat → BitVec 32) (t : TypeId) : SqAt (w.alloc (.cells (sqList f).toArray t)) w.heap.size f := fun i hi => by
  rw [cell_of_row _ _ _ _ _ _ (heap_alloc_new w _)]
  have h := sqList_get f hi
  simp only [List.getElem?_toArray]
  exact h

theorem bv_shr (a : BitVec 32) (k : Nat) : bv a / (2 : Int) ^ k = bv (a >>> k) := by
  have h2 : ((2 : Int) ^ k) = ((2 ^ k : Nat) : Int) := by simp
  rw [h2]; unfold bv
  rw [BitVec.toNat_ushiftRight, Nat.shiftRight_eq_div_pow]; rfl
theorem low_bit (c : BitVec 32) (k : Nat) : (c >>> k &&& 1#32 == 1#32) = c.getLsbD k := by
  have e : c >>> k &&& 1#32 = if c.getLsbD k then 1#32 else 0#32 := by
    apply BitVec.eq_of_getLsbD_eq
    intro i hi
    rw [BitVec.getLsbD_and, BitVec.getLsbD_one, BitVec.getLsbD_ushiftRight]
    by_cases h0 : i = 0
    · subst h0; cases c.getLsbD k <;> simp
    · cases c.getLsbD k <;> simp [h0]
  rw [e]; cases c.getLsbD k <;> decide
theorem part_yes (f : Nat → BitVec 32) (c : BitVec 32) (k : Nat) (h : (c >>> k &&& 1#32 == 1#32) = true) : Crc.part f c (k + 1) = Crc.part f c k ^^^ f k := by
  rw [low_bit] at h; rw [Crc.part, if_pos h]
theorem part_no (f : Nat → BitVec 32) (c : BitVec 32) (k : Nat) (h : (c >>> k &&& 1#32 == 1#32) = false) : Crc.part f c (k + 1) = Crc.part f c k := by
  rw [low_bit] at h; rw [Crc.part, if_neg (by simp [h]), BitVec.xor_zero]

set_option maxRecDepth 100000 in
theorem ref_do (f : Nat → BitVec 32) (c : BitVec 32) (w : World) :
    Calls Tryd.prog 30 #[.agg (sqList f).toArray, .int .u32 (bv c)] w fun e w' => e = .returned (.int .u32 (bv (Crc.ap f c))) ∧ Below w.heap.size w w' := by
  go_enter Tryd.func30, Tryd.ntmps30
  have HS := Lib.hid (sq_new w f 46)
  have HB : Hid (Below w.heap.size w (w.alloc (.cells (sqList f).toArray 46))) := (Below.refl _ _).alloc (Nat.le_refl _) _
  go_wp2_with fail
  generalize (w.alloc (.cells (sqList f).toArray 46)) = w1 at *
  go_loop [5, 6] (fun o i => ∃ k : Nat, k ≤ 32 ∧ i = .int .i64 k ∧ o = .int .u32 (bv (Crc.part f c k))) (fun _ i => 32 - (intOf i).toNat)
  case atStart => exact ⟨0, by omega, rfl, rfl⟩
  case round =>
    obtain ⟨k, hk, rfl, rfl⟩ := hrel
    by_cases hlt : k < 32
    · have hc := HS.out k hlt
      have hsh := bv_shr c k
      have hy := Lib.hid (part_yes f c k)
      have hn := Lib.hid (part_no f c k)
      go_wp2_with fail
      · go_round
        case rel => exact ⟨k + 1, by omega, by go_num, by rw [hy.out (by assumption)]⟩
        case measure => simp [intOf]; omega
      · go_round
        case rel => exact ⟨k + 1, by omega, by go_num, by rw [hn.out (by assumption)]⟩
        case measure => simp [intOf]; omega
    · have hge : (32 : Int) ≤ (k : Int) := by omega
      have e : Hid (Crc.part f c k = Crc.ap f c) := by obtain rfl : k = 32 := by omega
                                                       exact rfl
      go_wp2_with fail
      go_ret
      exact ⟨ret_u32 e.out, HB.out⟩

theorem zero_turn (w : World) : (zeroValue 46).run Tryd.prog w = .ok (.agg (sqList fun _ => 0#32).toArray) w := by kernel_rfl
/-- The row that the powers lie in. -/
structure Powers (w wr : World) (b : Nat) (j : Nat) : Prop where
  below : Below w.heap.size w wr
  own : w.heap.size ≤ b
  there : wr.there b 0 32
  sq : SqAt wr b (pw j)
theorem Powers.on {w wr w' : World} {b j : Nat} (h : Powers w wr b j) (hb : Below wr.heap.size wr w') : Powers w w' b j :=
  ⟨below_trans h.below hb, h.own, there_keep hb h.there, h.sq.below hb⟩

set_option maxHeartbeats 1000000 in
set_option maxRecDepth 100000 in
theorem ref_moved (c : BitVec 32) (n : Nat) (w : World) (hn : n ≤ 9223372036854775807) :
    Calls Tryd.prog 27 #[.int .u32 (bv c), .int .i64 n] w fun e w' => e = .returned (.int .u32 (bv (Crc.moved n c))) ∧ Below w.heap.size w w' := by
  have hz := zero_turn
  go_enter Tryd.func27, Tryd.ntmps27
  go_wp2_with fail
  go_loopw [6] (fun i wr => ∃ k : Nat, k ≤ 32 ∧ i = .int .i64 k ∧ Fill w wr w.heap.size 32 (regAt (pw 0)) k) (fun i _ => 32 - (intOf i).toNat)
  case atStart => exact ⟨0, by omega, rfl, Fill.start _ _ 32 (sqList_length _) _⟩
  case round =>
    obtain ⟨k, hk, rfl, hF⟩ := hrel
    have HF := Lib.hid hF
    clear hF
    by_cases hlt : k < 32
    · obtain ⟨u, hu, hfz⟩ := HF.out.at hlt
      have hsh := shl_one k hlt
      go_wp2_with fail
      refine (ref_step _ _).mono ?_
      rintro e w' ⟨rfl, rfl⟩
      go_wp2_with fail
      go_roundw
      case rel => exact ⟨k + 1, by omega, by go_num, HF.out.next hlt⟩
      case measure => simp [intOf]; omega
    · have HP : Hid (Powers w wr w.heap.size 0) := by
        obtain rfl : k = 32 := by omega
        exact ⟨HF.out.below, Nat.le_refl _, HF.out.there, HF.out.cells⟩
      have hge : (32 : Int) ≤ (k : Int) := by omega
      clear HF
      go_wp2_with fail
      obtain ⟨wo, rfl⟩ : ∃ wo : World, wo = wr := ⟨_, rfl⟩
      go_loopw [0, 1] (fun r i wr => ∃ (j k : Nat) (x : BitVec 32), k ≤ n ∧ r = .int .u32 (bv x) ∧ i = .int .i64 k ∧ Powers w wr w.heap.size j ∧ Crc.moved (2 ^ j * k) x = Crc.moved n c) (fun _ i _ => (intOf i).toNat)
      case atStart => exact ⟨0, n, c, Nat.le_refl _, rfl, rfl, HP.out, by simp⟩
      case round =>
        obtain ⟨j, k2, x, hk2, rfl, rfl, hP, hm⟩ := hrel
        have HQ := Lib.hid hP
        have HM := Lib.hid hm
        clear hP hm
        by_cases h0 : k2 = 0
        · subst h0
          go_wp2_with fail
          go_ret
          exact ⟨ret_u32 (by simpa [Crc.moved] using HM.out), HQ.out.below⟩
        · have hpos : (0 : Int) < (k2 : Int) := by omega
          have hr : wr.rangeAt w.heap.size 0 (sqList (pw j)) := rangeAt_sq HQ.out.sq
          rcases Nat.mod_two_eq_zero_or_one k2 with hpar | hpar
          focus
            have hodd1 : ((k2 : Int) % 2 == 1) = false := by rw [beq_eq_false_iff_ne]; omega
            have HM2 := Lib.hid ((moved_even j k2 x hpar).trans HM.out)
            clear hpar
            obtain ⟨x2, hx2⟩ : ∃ x2, x2 = x := ⟨_, rfl⟩
            rw [← hx2] at HM2
            have HQ2 := HQ
            obtain ⟨w2, hw2⟩ : ∃ w2, w2 = wr := ⟨_, rfl⟩
            rw [← hw2] at HQ2
            subst hx2 hw2
            go_wp2_with fail
          rotate_left
          focus
            have hodd1 : ((k2 : Int) % 2 == 1) = true := by rw [beq_iff_eq]; omega
            have HM2 := Lib.hid ((moved_odd j k2 x hpar).trans HM.out)
            clear hpar
            go_wp2_with (refine wpList_load_mid (op := ⟨some 23, _, _, _, _, _⟩) rfl 46 _ rfl w.heap.size 0 rfl (sqList (pw j)) _ hr Tryd.underlying46 rfl (sq_info _) ?_)
            refine (ref_do _ _ _).mono ?_
            rintro e w2 ⟨rfl, hb2⟩
            have HQ2 := Lib.hid (HQ.out.on hb2)
            clear hb2
            generalize Crc.ap (pw j) x = x2 at *
            go_wp2_with fail
          all_goals
            clear hr
            go_loopw [8] (fun i wr => ∃ k : Nat, k ≤ 32 ∧ i = .int .i64 k ∧ Fill w2 wr w2.heap.size 32 (regAt (pw (j + 1))) k) (fun i _ => 32 - (intOf i).toNat)
            case atStart => exact ⟨0, by omega, rfl, Fill.start _ _ 32 (sqList_length _) _⟩
            case round =>
              obtain ⟨k3, hk3, rfl, hF⟩ := hrel
              have HF := Lib.hid hF
              clear hF
              by_cases hlt3 : k3 < 32
              · obtain ⟨u, hu, hfz⟩ := HF.out.at hlt3
                have HP3 := Lib.hid (HQ2.out.on HF.out.below)
                have hcell := cell_regrown (HP3.out.sq k3 hlt3)
                have hw0 := Lib.hid (HQ2.out.below.size)
                have hpt : Crc.ap (pw j) (pw j k3) = pw (j + 1) k3 := congrFun (pw_twice j) k3
                have HPT := Lib.hid hpt
                clear hpt
                go_wp2_with fail
                refine wp_region_tail_below 7 (by kernel_rfl) (by kernel_rfl) ?_
                simp only [List.take_succ_cons, List.take_zero, List.drop_succ_cons, List.drop_zero]
                go_big_quiet_step (fail)
                refine wpQuiet_load_mid (op := ⟨some 31, _, _, _, _, _⟩) rfl 46 _ rfl w.heap.size 0 rfl (sqList (pw j)) _ (fun w hw => ?hr) Tryd.underlying46 rfl (sq_info _) ?_
                case hr =>
                  obtain ⟨p, rfl⟩ := hw
                  exact rangeAt_sq (HP3.out.sq.below (below_regrown _ _ _))
                simp only [Act.put, List.setIfInBounds_toArray, List.set_cons_zero, List.set_cons_succ]
                repeat (go_big_quiet_step ((go_at_call 30; exact Calls.regrown_of (ref_do _ _ _))))
                refine wpQuiet_nil ?_
                intro w3 hw3
                obtain ⟨⟨nq, osq⟩, hw3'⟩ := hw3
                have hb3 : Below wr.heap.size wr w3 := by rw [hw3']; exact below_regrown _ _ _
                have HF3 := Lib.hid (HF.out.on hb3)
                clear hw3' hcell hu hfz hb3
                obtain ⟨u, hu, hfz⟩ := HF3.out.at hlt3
                have e : Hid (regAt (pw (j + 1)) k3 = .int .u32 (bv (Crc.ap (pw j) (pw j k3)))) := by unfold regAt; rw [HPT.out]; exact rfl
                go_wp2_with fail
                go_roundw
                case rel => exact ⟨k3 + 1, by omega, by go_num, e.out ▸ HF3.out.next hlt3⟩
                case measure => simp [intOf]; omega
              · have hge3 : (32 : Int) ≤ (k3 : Int) := by omega
                have hr : wr.rangeAt w2.heap.size 0 (sqList (pw (j + 1))) := by
                  obtain rfl : k3 = 32 := by omega
                  exact rangeAt_sq HF.out.cells
                have HP3 := Lib.hid (HQ2.out.on HF.out.below)
                have ht : wr.there w.heap.size 0 (sqList (pw (j + 1))).toArray.size := by
                  rw [sqList_size]; exact HP3.out.there
                have HW : Hid (Powers w (wr.setCells w.heap.size 0 (sqList (pw (j + 1))).toArray.toList) w.heap.size (j + 1)) :=
                  ⟨below_setCells _ _ _ _ (Nat.le_refl _) HP3.out.below, Nat.le_refl _, World.there_setCells HP3.out.there _ _ _,
                    sq_rangeAt (World.rangeAt_setCells_same wr _ _ _ (by rw [sqList_length]; exact HP3.out.there))⟩
                go_wp2_with (first
                  | refine wpList_load_mid (op := ⟨some 37, _, _, _, _, _⟩) rfl 46 _ rfl w2.heap.size 0 rfl (sqList (pw (j + 1))) _ hr Tryd.underlying46 rfl (sq_info _) ?_
                  | refine wpList_store_mid (op := ⟨none, _, _, _, _, _⟩) rfl 46 _ _ rfl w.heap.size 0 (sqList (pw (j + 1))).toArray rfl rfl ht (sq_info _) (all_oneCell_toArray (sqList_one _)) ?_)
                generalize (wr.setCells w.heap.size 0 (sqList (pw (j + 1))).toArray.toList) = w4 at *
                go_wp2_with fail
                go_roundw
                case rel => exact ⟨j + 1, k2 / 2, x2, by omega, rfl, by go_num, HW.out, HM2.out⟩
                case measure => simp [intOf]; omega

theorem ref_join (a b : BitVec 32) (n : Nat) (w : World) (hn : n ≤ 9223372036854775807) :
    Calls Tryd.prog 20 #[.int .u32 (bv a), .int .u32 (bv b), .int .i64 n] w fun e w' => e = .returned (.int .u32 (bv (Crc.join a b n))) ∧ Below w.heap.size w w' := by
  go_enter Tryd.func20, Tryd.ntmps20
  go_wp2_with fail
  refine (ref_moved a n _ hn).mono ?_
  rintro e w' ⟨rfl, hb⟩
  go_wp2_with fail
  go_ret
  exact ⟨rfl, hb⟩
theorem ref_join_neg (a b : BitVec 32) (n : Int) (w : World) (hn : n < 0) :
    Calls Tryd.prog 20 #[.int .u32 (bv a), .int .u32 (bv b), .int .i64 n] w fun e w' => e = .returned (.int .u32 (bv 0#32)) ∧ Below w.heap.size w w' := by
  go_enter Tryd.func20, Tryd.ntmps20
  go_wp2_with fail
  go_ret
  exact ⟨rfl, Below.refl _ _⟩
theorem ref_zeros (s : BitVec 32) (n : Nat) (w : World) (hn : n ≤ 9223372036854775807) :
    Calls Tryd.prog 21 #[.int .u32 (bv s), .int .i64 n] w fun e w' => e = .returned (.int .u32 (bv (Crc.zeros s n))) ∧ Below w.heap.size w w' := by
  go_enter Tryd.func21, Tryd.ntmps21
  go_wp2_with fail
  refine (ref_moved _ n _ hn).mono ?_
  rintro e w' ⟨rfl, hb⟩
  go_wp2_with fail
  go_ret
  exact ⟨rfl, hb⟩
theorem ref_zeros_neg (s : BitVec 32) (n : Int) (w : World) (hn : n < 0) :
    Calls Tryd.prog 21 #[.int .u32 (bv s), .int .i64 n] w fun e w' => e = .returned (.int .u32 (bv 0#32)) ∧ Below w.heap.size w w' := by
  go_enter Tryd.func21, Tryd.ntmps21
  go_wp2_with fail
  go_ret
  exact ⟨rfl, Below.refl _ _⟩
end Go.Proofs.YtddepgacfeppfaaDoor

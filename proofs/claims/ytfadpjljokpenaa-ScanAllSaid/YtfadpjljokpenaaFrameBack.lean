/- The walk of flumelaw6's FrameBack. -/
import Derived.Test.YtfadpjljokpenaaFrameLaw
import Derived.Test.YtfadpjljokpenaaBytesFull
namespace Go.Proofs.Ytfadpjljokpenaa
open Go.RowKit

/-- A record in block g. -/
structure RecIn (w : World) (g : Nat) (x : Int) (v : Value) : Prop where
  c0 : w.cell? ⟨g, 0, none⟩ = some (.int .i64 x)
  c1 : w.cell? ⟨g, 1, none⟩ = some v
theorem rec_new (w : World) (x : Int) (v : Value) : RecIn (w.alloc (.cells #[.int .i64 x, v] 34)) w.heap.size x v :=
  ⟨cell_of_row _ _ 0 _ _ _ (heap_alloc_new w _), cell_of_row _ _ 1 _ _ _ (heap_alloc_new w _)⟩
theorem RecIn.on {w w' : World} {g : Nat} {x : Int} {v : Value} (h : RecIn w g x v) (hb : Below w.heap.size w w') : RecIn w' g x v := ⟨cell_keep hb h.c0, cell_keep hb h.c1⟩
theorem wF_read {seed : BitVec 32} {bs : List (BitVec 8)} {R : Rd} (K : 1 ≤ R.lsn.toNat ∧ R.lsn.toNat ≤ 9223372036854775806 ∧ R.data.length ≤ 4096 ∧ R.n = 16 + R.data.length ∧ R.n ≤ bs.length ∧ R.sum = sumF seed R.lsn R.data ∧ frameF seed R.lsn R.data = bs.take R.n) :
    wF seed (bv R.lsn) R.data = (bs.take R.n, sumF seed R.lsn R.data, 0) := by
  unfold wF
  rw [if_neg (by unfold bv; omega), if_neg (by omega), bv_lsn, K.2.2.2.2.2.2]
theorem wF_cases (seed : BitVec 32) (lsn : Int) (data : List (BitVec 8)) : (∃ x : BitVec 64, lsn = bv x ∧ 1 ≤ x.toNat ∧ x.toNat ≤ 9223372036854775806 ∧ data.length ≤ 4096 ∧ wF seed lsn data = (frameF seed x data, sumF seed x data, 0)) ∨ ∃ e, e ≠ 0 ∧ wF seed lsn data = ([], 0#32, e) := by
  unfold wF
  by_cases h1 : lsn < 1 ∨ 9223372036854775806 < lsn
  · rw [if_pos h1]; exact .inr ⟨1, by decide, rfl⟩
  · rw [if_neg h1]
    by_cases h2 : 4096 < data.length
    · rw [if_pos h2]; exact .inr ⟨3, by decide, rfl⟩
    · rw [if_neg h2]
      have e := lsn_bv (lsn := lsn) (by omega) (by omega)
      have hx : ((BitVec.ofInt 64 lsn).toNat : Int) = lsn := e
      exact .inl ⟨BitVec.ofInt 64 lsn, e.symm, by omega, by omega, by omega, rfl⟩

set_option maxHeartbeats 4000000 in
set_option maxRecDepth 100000 in
theorem frame_back (lsn : Int) (ai : Option Addr) (data : List (BitVec 8)) (ci : Nat) (seed : BitVec 32) (ao : Option Addr) (bs : List (BitVec 8)) (cb : Nat) (w : World) (hl : -9223372036854775808 ≤ lsn ∧ lsn ≤ 9223372036854775807)
    (hd : BytesAt w ai data) (nd : ai = none → ci = 0) (ld : data.length ≤ ci) (zd : ci ≤ 140737488351232) (hb : BytesAt w ao bs) (hn : ao = none → cb = 0) (hc : bs.length ≤ cb) (hm : cb ≤ 140737488351232) :
    Calls Try.prog 5 #[.agg #[.int .i64 lsn, .slice ai data.length ci], .int .u32 (bv seed), .slice ao bs.length cb] w (TrueBelow w) := by
  have HD0 := Lib.hid hd
  have HB := Lib.hid hb
  have HN := Lib.hid hn
  have HND := Lib.hid nd
  have A0 := Lib.hid (rec_new w lsn (.slice ai data.length ci))
  have BA := Lib.hid (below_alloc w (.cells #[.int .i64 lsn, .slice ai data.length ci] 34))
  clear hd hb hn nd
  go_enter Try.func5, Try.ntmps5
  go_wp2_with fail
  refine (frame_begun _).mono ?_
  rintro e w1 ⟨rfl, hb⟩
  have A1 := Lib.hid (A0.out.on hb)
  have BW1 := Lib.hid (below_trans BA.out hb)
  clear hb A0 BA
  have c0 := A1.out.c0
  have c1 := A1.out.c1
  rcases wF_cases seed lsn data with ⟨x, rfl, hx1, hx2, hd4, hW⟩ | ⟨er, her, hW⟩
  · have HW := Lib.hid hW
    have RF := Lib.hid (rF_front seed x data bs hd4 hx1 hx2)
    have LF := Lib.hid (frameF_len seed x data)
    obtain ⟨F, hF⟩ : ∃ F, frameF seed x data = F := ⟨_, rfl⟩
    rw [hF] at HW RF LF
    have hlf : F.length = 16 + data.length := LF.out
    have SZ : Hid (sizeI (data.length : Int) = 16 + (data.length : Int)) := Lib.hid (by unfold sizeI; rw [if_neg (by omega)])
    clear hW hF
    go_wp2_with fail
    refine (frame_write_x _ seed (bv x) ai data _ ci _ rfl (HD0.out.below BW1.out) rfl HND.out hl (by omega) _ _ _ HW.out).mono ?_
    rintro e w2 ⟨v2, rfl, hO, hb⟩
    obtain ⟨a2, c2, rfl, x2, n2, -, -, -⟩ := hO.slice
    have BW2 := Lib.hid (below_trans BW1.out hb)
    have A2 := Lib.hid (A1.out.on hb)
    have X2 := Lib.hid x2
    have N2 := Lib.hid n2
    clear hO hb x2 n2 c0 c1
    go_wp2_with (refine wpList_append_bytes (o := ⟨some 37, _, _, _, _, _⟩) rfl _ _ rfl w2.heap.size _ [] rfl (OwnB.nil _ _) a2 _ c2 F rfl LF.out.symm X2.out N2.out (by rw [LF.out]; simp; omega) (Nat.le_refl _) ?_)
    intro v3 w3 hv hg hi
    have O3 := Lib.hid (show OwnB w3 w2.heap.size v3 F from hv)
    have B23 := Lib.hid ((OwnB.nil w2 w2.heap.size).below hg (Nat.le_refl _) (Nat.le_refl _))
    have BW3 := Lib.hid (below_trans BW2.out B23.out)
    clear hv hg hi X2 N2
    go_wp2_with (refine wpList_append_far (o := ⟨some 39, _, _, _, _, _⟩) rfl _ _ rfl w2.heap.size _ F rfl O3.out ao _ cb bs rfl rfl (HB.out.below BW3.out) HN.out (by rw [LF.out]; omega) B23.out.size ?_)
    intro v4 w4 hv hg
    have B24 := Lib.hid (B23.out.trans (O3.out.below hg (Nat.le_refl _) B23.out.size))
    have BW4 := Lib.hid (below_trans BW2.out B24.out)
    obtain ⟨a4, c4, rfl, x4, n4, l4, m4, -⟩ := hv.slice
    have X4 := Lib.hid x4
    have N4 := Lib.hid n4
    have M4 := Lib.hid (show (F ++ bs).length ≤ c4 ∧ c4 ≤ 9223372036854775807 from ⟨l4, m4⟩)
    clear hv hg x4 n4 l4 m4 O3 B23
    go_wp2_with fail
    refine (frame_read_x _ seed a4 (F ++ bs) _ c4 _ rfl X4.out (by rw [List.length_append, LF.out]) N4.out (by have := M4.out.1; rw [List.length_append, LF.out] at this; exact this) M4.out.2 _ RF.out).mono ?_
    rintro e w5 ⟨v5, rfl, hO, hb⟩
    dsimp only at hO
    obtain ⟨a5, c5, rfl, x5, n5, -, -, -⟩ := hO.slice
    have BW5 := Lib.hid (below_trans BW4.out hb)
    have A5 := Lib.hid (A2.out.on (below_trans B24.out hb))
    have X5 := Lib.hid x5
    have Q5 := Lib.hid (rec_new w5 (bv x) (.slice a5 data.length c5))
    have BA5 := Lib.hid (below_alloc w5 (.cells #[.int .i64 (bv x), .slice a5 data.length c5] 34))
    clear hO hb x5 n5 X4 N4 M4
    have q0 := Q5.out.c0
    have q1 := Q5.out.c1
    have r0 := (A5.out.on BA5.out).c0
    have r1 := (A5.out.on BA5.out).c1
    go_wp2_with fail
    refine (rec_same (bv x) a5 ai data _ c5 ci _ (X5.out.below BA5.out) ((HD0.out.below BW5.out).below BA5.out) rfl (by omega)).mono ?_
    rintro e w6 ⟨rfl, hb⟩
    have r2 := ((A5.out.on BA5.out).on hb).c1
    have BW6 := Lib.hid (below_trans (below_trans BW5.out BA5.out) hb)
    clear hb q0 q1 r0 r1
    go_wp2_with fail
    refine (frame_size _ _).mono ?_
    rintro e w7 ⟨rfl, rfl⟩
    rw [SZ.out]
    clear r2
    go_wp2_with fail
    refine (frame_read_x _ seed ao bs _ cb _ rfl (HB.out.below BW6.out) rfl HN.out hc (by omega) _ rfl).mono ?_
    rintro e u1 ⟨v1, rfl, hO, hb⟩
    obtain ⟨R, hR⟩ : ∃ R, rF seed bs = R := ⟨_, rfl⟩
    rw [hR] at hO ⊢
    have HR := Lib.hid hR
    obtain ⟨a1, c1, rfl, x1, n1, -, -, -⟩ := hO.slice
    have U1 := Lib.hid (below_trans BW6.out hb)
    have A2 := Lib.hid (rec_new u1 (bv R.lsn) (.slice a1 R.data.length c1))
    have U2 := Lib.hid (below_trans U1.out (below_alloc u1 (.cells #[.int .i64 (bv R.lsn), .slice a1 R.data.length c1] 34)))
    have X2 := Lib.hid (x1.below (below_alloc u1 (.cells #[.int .i64 (bv R.lsn), .slice a1 R.data.length c1] 34)))
    have N2 := Lib.hid n1
    clear hO hb x1 n1 hR
    have q0 := A2.out.c0
    have q1 := A2.out.c1
    by_cases hE : R.err = 0
    · have K := Lib.hid (rF_ok (HR.out.symm ▸ hE : (rF seed bs).err = 0))
      rw [HR.out] at K
      have hE' : ((R.err : Nat) : Int) = 0 := by omega
      have WE := Lib.hid (wF_read K.out)
      have hn : R.n ≤ bs.length := K.out.2.2.2.2.1
      have hs : R.sum = sumF seed R.lsn R.data := K.out.2.2.2.2.2.1
      have hr := bv_range R.lsn
      have HRG := Lib.hid (show -9223372036854775808 ≤ bv R.lsn ∧ bv R.lsn ≤ 9223372036854775807 from ⟨by omega, by have := K.out.2.1; unfold bv; omega⟩)
      have D4 := Lib.hid (show R.data.length ≤ 4096 from K.out.2.2.1)
      clear hE hr
      go_wp2_with fail
      refine (frame_write_x _ seed (bv R.lsn) a1 R.data _ c1 _ rfl X2.out rfl N2.out HRG.out (by have := D4.out; omega) _ _ _ WE.out).mono ?_
      rintro e u3 ⟨v3, rfl, hO, hb⟩
      obtain ⟨a3, c3, rfl, x3, -, -, -, -⟩ := hO.slice
      have U3 := Lib.hid (below_trans U2.out hb)
      have X3 := Lib.hid x3
      have TL : Hid ((bs.take R.n).length = R.n) := Lib.hid (by simp; omega)
      have n3 : ((bs.take R.n).length : Nat) = R.n := TL.out
      have hbe : (bv R.sum == bv (sumF seed R.lsn R.data)) = true := by rw [hs]; simp
      have hbe' : (bv (sumF seed R.lsn R.data) == bv R.sum) = true := by rw [hs]; simp
      clear hO hb x3 q0 q1
      go_wp2_with fail
      refine (eq_bytes_of a3 ao (bs.take R.n) (bs.take R.n) _ _ c3 cb true _ X3.out ((HB.out.take R.n).below U3.out) (by first | rfl | exact n3) n3 (by rw [n3]; have := K.out.2.2.2.1; have := D4.out; omega) (decide_eq_true rfl)).mono ?_
      rintro e u4 ⟨rfl, n4, hw4⟩
      have U4 := Lib.hid (show Below w.heap.size w u4 by rw [hw4]; exact below_trans U3.out (below_drewN _ _))
      clear hw4
      go_wp2_with fail
      go_ret
      exact ⟨rfl, U4.out⟩
    · have K := Lib.hid (rF_bad (HR.out.symm ▸ hE : (rF seed bs).err ≠ 0))
      rw [HR.out] at K
      have hE' : ¬ ((R.err : Nat) : Int) = 0 := by omega
      have hz : bv R.lsn = 0 := by rw [K.out]; rfl
      have hn0 : R.n = 0 := by rw [K.out]; rfl
      clear hE
      go_wp2_with fail
      go_ret
      exact ⟨rfl, by have := U2.out; rw [hz] at this; exact this⟩
  · have HW := Lib.hid hW
    have her' : ¬ ((er : Nat) : Int) = 0 := by omega
    clear hW
    go_wp2_with fail
    refine (frame_write_x _ seed lsn ai data _ ci _ rfl (HD0.out.below BW1.out) rfl HND.out hl (by omega) _ _ _ HW.out).mono ?_
    rintro e w2 ⟨v2, rfl, hO, hb⟩
    obtain ⟨a2, c2, rfl, x2, n2, -, -, -⟩ := hO.slice
    have BW2 := Lib.hid (below_trans BW1.out hb)
    clear hO hb x2 n2 c0 c1
    go_wp2_with fail
    refine (frame_read_x _ seed ao bs _ cb _ rfl (HB.out.below BW2.out) rfl HN.out hc (by omega) _ rfl).mono ?_
    rintro e u1 ⟨v1, rfl, hO, hb⟩
    obtain ⟨R, hR⟩ : ∃ R, rF seed bs = R := ⟨_, rfl⟩
    rw [hR] at hO ⊢
    have HR := Lib.hid hR
    obtain ⟨a1, c1, rfl, x1, n1, -, -, -⟩ := hO.slice
    have U1 := Lib.hid (below_trans BW2.out hb)
    have A2 := Lib.hid (rec_new u1 (bv R.lsn) (.slice a1 R.data.length c1))
    have U2 := Lib.hid (below_trans U1.out (below_alloc u1 (.cells #[.int .i64 (bv R.lsn), .slice a1 R.data.length c1] 34)))
    have X2 := Lib.hid (x1.below (below_alloc u1 (.cells #[.int .i64 (bv R.lsn), .slice a1 R.data.length c1] 34)))
    have N2 := Lib.hid n1
    clear hO hb x1 n1 hR
    have q0 := A2.out.c0
    have q1 := A2.out.c1
    by_cases hE : R.err = 0
    · have K := Lib.hid (rF_ok (HR.out.symm ▸ hE : (rF seed bs).err = 0))
      rw [HR.out] at K
      have hE' : ((R.err : Nat) : Int) = 0 := by omega
      have WE := Lib.hid (wF_read K.out)
      have hn : R.n ≤ bs.length := K.out.2.2.2.2.1
      have hs : R.sum = sumF seed R.lsn R.data := K.out.2.2.2.2.2.1
      have hr := bv_range R.lsn
      have HRG := Lib.hid (show -9223372036854775808 ≤ bv R.lsn ∧ bv R.lsn ≤ 9223372036854775807 from ⟨by omega, by have := K.out.2.1; unfold bv; omega⟩)
      have D4 := Lib.hid (show R.data.length ≤ 4096 from K.out.2.2.1)
      clear hE hr
      go_wp2_with fail
      refine (frame_write_x _ seed (bv R.lsn) a1 R.data _ c1 _ rfl X2.out rfl N2.out HRG.out (by have := D4.out; omega) _ _ _ WE.out).mono ?_
      rintro e u3 ⟨v3, rfl, hO, hb⟩
      obtain ⟨a3, c3, rfl, x3, -, -, -, -⟩ := hO.slice
      have U3 := Lib.hid (below_trans U2.out hb)
      have X3 := Lib.hid x3
      have TL : Hid ((bs.take R.n).length = R.n) := Lib.hid (by simp; omega)
      have n3 : ((bs.take R.n).length : Nat) = R.n := TL.out
      have hbe : (bv R.sum == bv (sumF seed R.lsn R.data)) = true := by rw [hs]; simp
      have hbe' : (bv (sumF seed R.lsn R.data) == bv R.sum) = true := by rw [hs]; simp
      clear hO hb x3 q0 q1
      go_wp2_with fail
      refine (eq_bytes_of a3 ao (bs.take R.n) (bs.take R.n) _ _ c3 cb true _ X3.out ((HB.out.take R.n).below U3.out) (by first | rfl | exact n3) n3 (by rw [n3]; have := K.out.2.2.2.1; have := D4.out; omega) (decide_eq_true rfl)).mono ?_
      rintro e u4 ⟨rfl, n4, hw4⟩
      have U4 := Lib.hid (show Below w.heap.size w u4 by rw [hw4]; exact below_trans U3.out (below_drewN _ _))
      clear hw4
      go_wp2_with fail
      go_ret
      exact ⟨rfl, U4.out⟩
    · have K := Lib.hid (rF_bad (HR.out.symm ▸ hE : (rF seed bs).err ≠ 0))
      rw [HR.out] at K
      have hE' : ¬ ((R.err : Nat) : Int) = 0 := by omega
      have hz : bv R.lsn = 0 := by rw [K.out]; rfl
      have hn0 : R.n = 0 := by rw [K.out]; rfl
      clear hE
      go_wp2_with fail
      go_ret
      exact ⟨rfl, by have := U2.out; rw [hz] at this; exact this⟩
end Go.Proofs.Ytfadpjljokpenaa

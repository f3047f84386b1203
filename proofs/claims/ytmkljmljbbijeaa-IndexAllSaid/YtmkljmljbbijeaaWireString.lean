/- The walks of Varint, String and ReadString. -/
import Derived.Test.YtmkljmljbbijeaaWireVarint
import Derived.Test.YtmkljmljbbijeaaLent
import Derived.Deep.DeepCutAuto
namespace Go.Proofs.Ytmkljmljbbijeaa
open Go.RowKit

set_option maxRecDepth 100000 in
theorem wire_varint (n : BitVec 64) (w : World) :
    Calls Try.prog 53 #[.int .u64 (bv n)] w fun e w' => ∃ v, e = .returned v ∧ OwnB w' w.heap.size v (varint n) ∧ Below w.heap.size w w' := by
  go_enter Try.func53, Try.ntmps53
  go_wp2_with fail
  go_loopw [0, 3] (fun z v wr => ∃ (m : BitVec 64) (xs : List (BitVec 8)), z = .int .u64 (bv m) ∧ Hid (OwnB wr w.heap.size v xs) ∧ Hid (WrAt n xs m) ∧ Hid (Below w.heap.size w wr)) (fun z _ _ => (intOf z).toNat)
  case atStart => exact ⟨n, [], rfl, OwnB.nil _ _, WrAt.start n, Below.refl _ _⟩
  case round =>
    obtain ⟨m, xs, rfl, hO, hW, hB⟩ := hrel
    by_cases h1 : 128 ≤ bv m
    · have HN := Lib.hid (hW.out.next h1)
      have V3 := Lib.hid (hO.out.keep (below_alloc wr (.cells (bvals [m.setWidth 8 ||| 128#8]).toArray 5 (0, 0))))
      have HM := Lib.hid (bytes_new wr [m.setWidth 8 ||| 128#8] 5 (0, 0))
      have HS : Hid (w.heap.size ≤ (wr.alloc (.cells (bvals [m.setWidth 8 ||| 128#8]).toArray 5 (0, 0))).heap.size) := Nat.le_trans hB.out.size (below_alloc wr _).size
      go_wp2_with (refine wpList_append_bytes (o := ⟨some 11, _, _, _, _, _⟩) rfl _ _ rfl w.heap.size _ xs rfl V3.out (some ⟨wr.heap.size, 0, none⟩) 1 1 [m.setWidth 8 ||| 128#8] rfl rfl HM.out (fun h => nomatch h) (by have := hW.out.1; simp; omega) HS.out ?_)
      intro v3 w3 hv3 hg3 hi3
      have H3 : Hid (Below w.heap.size w w3) := (hB.out.trans ((below_alloc wr _).mono hB.out.size)).trans (V3.out.below hg3 (Nat.le_refl _) HS.out)
      have O3 := Lib.hid hv3
      clear hi3 hg3 hv3
      go_wp2_with fail
      go_roundw
      case rel => exact ⟨m >>> 7, _, rfl, O3, HN, H3⟩
      case measure => exact shr_lt h1
    · have HD := Lib.hid (hW.out.done (by omega))
      have V3 := Lib.hid (hO.out.keep (below_alloc wr (.cells (bvals [m.setWidth 8]).toArray 5 (0, 0))))
      have HM := Lib.hid (bytes_new wr [m.setWidth 8] 5 (0, 0))
      have HS : Hid (w.heap.size ≤ (wr.alloc (.cells (bvals [m.setWidth 8]).toArray 5 (0, 0))).heap.size) := Nat.le_trans hB.out.size (below_alloc wr _).size
      go_wp2_with (refine wpList_append_bytes (o := ⟨some 18, _, _, _, _, _⟩) rfl _ _ rfl w.heap.size _ xs rfl V3.out (some ⟨wr.heap.size, 0, none⟩) 1 1 [m.setWidth 8] rfl rfl HM.out (fun h => nomatch h) (by have := hW.out.1; simp; omega) HS.out ?_)
      intro v3 w3 hv3 hg3 hi3
      have H3 : Hid (Below w.heap.size w w3) := (hB.out.trans ((below_alloc wr _).mono hB.out.size)).trans (V3.out.below hg3 (Nat.le_refl _) HS.out)
      have O3 := Lib.hid hv3
      clear hi3 hg3 hv3
      go_wp2_with fail
      go_ret
      exact ⟨_, rfl, HD.out ▸ O3.out, H3.out⟩

/-- What a string's reading hands back. -/
def RsOut (w : World) (r : List (BitVec 8) × Nat × Nat) (e : Ending) (w' : World) : Prop :=
  ∃ v, e = .returned (.tuple #[v, .int .i64 r.2.1, .int .i64 r.2.2]) ∧ OwnB w' w.heap.size v r.1 ∧ Below w.heap.size w w'

set_option maxHeartbeats 1000000 in
set_option maxRecDepth 100000 in
theorem read_string_end (ao : Option Addr) (bs : List (BitVec 8)) (cap : Nat) (most : Int) (w : World) (hb : BytesAt w ao bs) (hc : bs.length ≤ cap) (hn : ao = none → cap = 0) (hm : cap ≤ 9223372036854775807) (hlen : bs.length ≤ 140737488355328) (hmost : -9223372036854775808 ≤ most ∧ most ≤ 9223372036854775807)
    (n : BitVec 64) (k m : Nat) (hr : rv bs = (n, k, 0)) (hv : rvVal (n, k, 0) = .tuple #[.int .u64 m, .int .i64 k, .int .i64 0]) (hp : 1 ≤ k) (hk : k ≤ bs.length) (h1 : (m : Int) ≤ most) (h2 : m ≤ bs.length - k) (hck : cap = k) :
    Calls Try.prog 56 #[.slice ao bs.length cap, .int .i64 most] w (RsOut w ((bs.drop k).take m, k + m, 0)) := by
  obtain ⟨b, off, rfl, -⟩ := hb 0 (by omega)
  have HB := Lib.hid hb
  have HR := Lib.hid hr
  have V := Lib.hid hv
  clear hb hn hr hv
  obtain rfl : m = 0 := by omega
  rw [List.take_zero]
  subst hck
  go_enter Try.func56, Try.ntmps56
  go_wp2_with fail
  refine (read_varint_to _ bs _ _ _ (.tuple #[.int .u64 (0 : Nat), .int .i64 cap, .int .i64 0]) HB.out rfl (by rw [HR.out, V.out])).mono ?_
  rintro e w' ⟨rfl, rfl⟩
  go_wp2_with (refine wpList_append_bytes (o := ⟨some 44, _, _, _, _, _⟩) rfl _ _ rfl w.heap.size _ [] rfl (OwnB.nil _ _) (some ⟨b, off, none⟩) _ _ [] rfl (by simp; try omega) (fun i hi => by simp at hi) (fun h => nomatch h) (by simp) (Nat.le_refl _) ?_)
  intro v3 w3 hv3 hg3 hi3
  have H3 : Hid (Below w.heap.size w w3) := (OwnB.nil w w.heap.size).below hg3 (Nat.le_refl _) (Nat.le_refl _)
  have O3 : Hid (OwnB w3 w.heap.size v3 []) := hv3
  clear hi3 hg3 hv3
  go_wp2_with fail
  go_ret3
  exact ⟨_, rfl, O3.out, H3.out⟩

set_option maxHeartbeats 1000000 in
set_option maxRecDepth 100000 in
theorem read_string_mid (ao : Option Addr) (bs : List (BitVec 8)) (cap : Nat) (most : Int) (w : World) (hb : BytesAt w ao bs) (hc : bs.length ≤ cap) (hn : ao = none → cap = 0) (hlen : bs.length ≤ 140737488355328) (hmost : -9223372036854775808 ≤ most ∧ most ≤ 9223372036854775807)
    (n : BitVec 64) (k m : Nat) (hr : rv bs = (n, k, 0)) (hv : rvVal (n, k, 0) = .tuple #[.int .u64 m, .int .i64 k, .int .i64 0]) (hp : 1 ≤ k) (hk : k ≤ bs.length) (h1 : (m : Int) ≤ most) (h2 : m ≤ bs.length - k) (hck : ¬ cap = k) :
    Calls Try.prog 56 #[.slice ao bs.length cap, .int .i64 most] w (RsOut w ((bs.drop k).take m, k + m, 0)) := by
  obtain ⟨b, off, rfl, -⟩ := hb 0 (by omega)
  have HB := Lib.hid hb
  have HR := Lib.hid hr
  have V := Lib.hid hv
  clear hb hn hr hv
  have HS := Lib.hid (HB.out.sub k m)
  have hl : ((bs.drop k).take m).length = m := by simp; omega
  have HL := Lib.hid hl
  clear hl
  go_enter Try.func56, Try.ntmps56
  go_wp2_with fail
  refine (read_varint_to _ bs _ _ _ (.tuple #[.int .u64 m, .int .i64 k, .int .i64 0]) HB.out rfl (by rw [HR.out, V.out])).mono ?_
  rintro e w' ⟨rfl, rfl⟩
  go_wp2_with (refine wpList_append_bytes (o := ⟨some 44, _, _, _, _, _⟩) rfl _ _ rfl w.heap.size _ [] rfl (OwnB.nil _ _) (some ⟨b, off + k, none⟩) _ _ ((bs.drop k).take m) rfl (by rw [HL.out]; try omega) HS.out (fun h => nomatch h) (by rw [HL.out]; simp; omega) (Nat.le_refl _) ?_)
  intro v3 w3 hv3 hg3 hi3
  have H3 : Hid (Below w.heap.size w w3) := (OwnB.nil w w.heap.size).below hg3 (Nat.le_refl _) (Nat.le_refl _)
  have O3 : Hid (OwnB w3 w.heap.size v3 ((bs.drop k).take m)) := hv3
  clear hi3 hg3 hv3
  go_wp2_with fail
  go_ret3
  exact ⟨_, rfl, O3.out, H3.out⟩

set_option maxHeartbeats 1000000 in
set_option maxRecDepth 100000 in
theorem read_string_some (ao : Option Addr) (bs : List (BitVec 8)) (cap : Nat) (most : Int) (w : World) (hb : BytesAt w ao bs) (hc : bs.length ≤ cap) (hn : ao = none → cap = 0) (hm : cap ≤ 9223372036854775807) (hlen : bs.length ≤ 140737488355328) (hmost : -9223372036854775808 ≤ most ∧ most ≤ 9223372036854775807)
    (n : BitVec 64) (k m : Nat) (hr : rv bs = (n, k, 0)) (hv : rvVal (n, k, 0) = .tuple #[.int .u64 m, .int .i64 k, .int .i64 0]) (hp : 1 ≤ k) (hk : k ≤ bs.length) (h1 : (m : Int) ≤ most) (h2 : m ≤ bs.length - k) :
    Calls Try.prog 56 #[.slice ao bs.length cap, .int .i64 most] w (RsOut w ((bs.drop k).take m, k + m, 0)) := by
  by_cases hck : cap = k
  · exact read_string_end ao bs cap most w hb hc hn hm hlen hmost n k m hr hv hp hk h1 h2 hck
  · exact read_string_mid ao bs cap most w hb hc hn hlen hmost n k m hr hv hp hk h1 h2 hck

set_option maxHeartbeats 2000000 in
set_option maxRecDepth 100000 in
theorem read_string (ao : Option Addr) (bs : List (BitVec 8)) (cap : Nat) (most : Int) (w : World) (hb : BytesAt w ao bs) (hc : bs.length ≤ cap) (hn : ao = none → cap = 0) (hm : cap ≤ 9223372036854775807) (hlen : bs.length ≤ 140737488355328) (hmost : -9223372036854775808 ≤ most ∧ most ≤ 9223372036854775807) :
    Calls Try.prog 56 #[.slice ao bs.length cap, .int .i64 most] w (RsOut w (rs bs most)) := by
  have HB := Lib.hid hb
  have HN := Lib.hid hn
  clear hb hn
  have hk := rv_le bs
  have hp := rv_pos bs
  obtain ⟨n, k, e, hr⟩ : ∃ n k e, rv bs = (n, k, e) := ⟨_, _, _, rfl⟩
  have HR := Lib.hid hr
  rw [hr] at hk hp
  clear hr
  simp only at hk hp
  have hn0 : bv n = (ix n : Int) := rfl
  have hn1 := ix_lt n
  unfold rs
  by_cases h0 : most < 0
  · rw [if_pos h0]
    clear hp hn0 hn1
    go_enter Try.func56, Try.ntmps56
    go_wp2_with fail
    go_ret3
    exact ⟨_, rfl, OwnB.nil _ _, Below.refl _ _⟩
  rw [if_neg h0]
  rw [HR.out]
  simp only
  by_cases he : e = 0
  · subst he
    rw [if_neg (by simp), hn0]
    have hp := hp rfl
    generalize ix n = m at *
    have V : Hid (rvVal (n, k, 0) = .tuple #[.int .u64 m, .int .i64 k, .int .i64 0]) := by unfold rvVal; rw [hn0]; rfl
    clear hn0
    by_cases h1 : most < m
    · rw [if_pos h1]
      go_enter Try.func56, Try.ntmps56
      go_wp2_with fail
      refine (read_varint_to _ bs _ _ _ (.tuple #[.int .u64 m, .int .i64 k, .int .i64 0]) HB.out rfl (by rw [HR.out, V.out])).mono ?_
      rintro e w' ⟨rfl, rfl⟩
      go_wp2_with fail
      go_ret3
      exact ⟨_, rfl, OwnB.nil _ _, Below.refl _ _⟩
    · rw [if_neg h1]
      by_cases h2 : ((bs.length - k : Nat) : Int) < m
      · rw [if_pos h2]
        go_enter Try.func56, Try.ntmps56
        go_wp2_with fail
        refine (read_varint_to _ bs _ _ _ (.tuple #[.int .u64 m, .int .i64 k, .int .i64 0]) HB.out rfl (by rw [HR.out, V.out])).mono ?_
        rintro e w' ⟨rfl, rfl⟩
        go_wp2_with fail
        go_ret3
        exact ⟨_, rfl, OwnB.nil _ _, Below.refl _ _⟩
      · rw [if_neg h2]
        exact read_string_some ao bs cap most w HB.out hc HN.out hm hlen hmost n k m HR.out V.out hp hk (by omega) (by omega)
  · rw [if_pos he]
    have t1 : ((e : Int) != 0) = true := by simp [he]
    have he0 : ¬ (e : Int) = 0 := by omega
    clear he hp hn0 hn1
    go_enter Try.func56, Try.ntmps56
    go_wp2_with fail
    refine (read_varint_to _ bs _ _ _ (.tuple #[.int .u64 (bv n), .int .i64 k, .int .i64 e]) HB.out rfl (by rw [HR.out]; rfl)).mono ?_
    rintro e w' ⟨rfl, rfl⟩
    go_wp2_with fail
    go_ret3
    exact ⟨_, rfl, OwnB.nil _ _, Below.refl _ _⟩
end Go.Proofs.Ytmkljmljbbijeaa

/-! The walk of the document's ReadString. -/
namespace Go.Proofs.Ytmkljmljbbijeaa
open Go.RowKit

set_option maxHeartbeats 1000000 in
set_option maxRecDepth 100000 in
theorem ref_read_string_end (ao : Option Addr) (bs : List (BitVec 8)) (cap : Nat) (most : Int) (w : World) (hb : BytesAt w ao bs) (hc : bs.length ≤ cap) (hn : ao = none → cap = 0) (hm : cap ≤ 9223372036854775807) (hlen : bs.length ≤ 140737488355328) (hmost : -9223372036854775808 ≤ most ∧ most ≤ 9223372036854775807)
    (n : BitVec 64) (k m : Nat) (hr : rv bs = (n, k, 0)) (hv : rvVal (n, k, 0) = .tuple #[.int .u64 m, .int .i64 k, .int .i64 0]) (hp : 1 ≤ k) (hk : k ≤ bs.length) (h1 : (m : Int) ≤ most) (h2 : m ≤ bs.length - k) (hck : cap = k) :
    Calls Try.prog 118 #[.slice ao bs.length cap, .int .i64 most] w (RsOut w ((bs.drop k).take m, k + m, 0)) := by
  obtain ⟨b, off, rfl, -⟩ := hb 0 (by omega)
  have HB := Lib.hid hb
  have HR := Lib.hid hr
  have V := Lib.hid hv
  clear hb hn hr hv
  obtain rfl : m = 0 := by omega
  rw [List.take_zero]
  subst hck
  go_enter Try.func118, Try.ntmps118
  go_wp2_with fail
  refine (ref_read_varint_to _ bs _ _ _ (.tuple #[.int .u64 (0 : Nat), .int .i64 cap, .int .i64 0]) HB.out rfl (by rw [HR.out, V.out])).mono ?_
  rintro e w' ⟨rfl, rfl⟩
  go_wp2_with (refine wpList_append_bytes (o := ⟨some 39, _, _, _, _, _⟩) rfl _ _ rfl w.heap.size _ [] rfl (OwnB.nil _ _) (some ⟨b, off, none⟩) _ _ [] rfl (by simp; try omega) (fun i hi => by simp at hi) (fun h => nomatch h) (by simp) (Nat.le_refl _) ?_)
  intro v3 w3 hv3 hg3 hi3
  have H3 : Hid (Below w.heap.size w w3) := (OwnB.nil w w.heap.size).below hg3 (Nat.le_refl _) (Nat.le_refl _)
  have O3 : Hid (OwnB w3 w.heap.size v3 []) := hv3
  clear hi3 hg3 hv3
  go_wp2_with fail
  go_ret3
  exact ⟨_, rfl, O3.out, H3.out⟩

set_option maxHeartbeats 1000000 in
set_option maxRecDepth 100000 in
theorem ref_read_string_mid (ao : Option Addr) (bs : List (BitVec 8)) (cap : Nat) (most : Int) (w : World) (hb : BytesAt w ao bs) (hc : bs.length ≤ cap) (hn : ao = none → cap = 0) (hlen : bs.length ≤ 140737488355328) (hmost : -9223372036854775808 ≤ most ∧ most ≤ 9223372036854775807)
    (n : BitVec 64) (k m : Nat) (hr : rv bs = (n, k, 0)) (hv : rvVal (n, k, 0) = .tuple #[.int .u64 m, .int .i64 k, .int .i64 0]) (hp : 1 ≤ k) (hk : k ≤ bs.length) (h1 : (m : Int) ≤ most) (h2 : m ≤ bs.length - k) (hck : ¬ cap = k) :
    Calls Try.prog 118 #[.slice ao bs.length cap, .int .i64 most] w (RsOut w ((bs.drop k).take m, k + m, 0)) := by
  obtain ⟨b, off, rfl, -⟩ := hb 0 (by omega)
  have HB := Lib.hid hb
  have HR := Lib.hid hr
  have V := Lib.hid hv
  clear hb hn hr hv
  have HS := Lib.hid (HB.out.sub k m)
  have hl : ((bs.drop k).take m).length = m := by simp; omega
  have HL := Lib.hid hl
  clear hl
  go_enter Try.func118, Try.ntmps118
  go_wp2_with fail
  refine (ref_read_varint_to _ bs _ _ _ (.tuple #[.int .u64 m, .int .i64 k, .int .i64 0]) HB.out rfl (by rw [HR.out, V.out])).mono ?_
  rintro e w' ⟨rfl, rfl⟩
  go_wp2_with (refine wpList_append_bytes (o := ⟨some 39, _, _, _, _, _⟩) rfl _ _ rfl w.heap.size _ [] rfl (OwnB.nil _ _) (some ⟨b, off + k, none⟩) _ _ ((bs.drop k).take m) rfl (by rw [HL.out]; try omega) HS.out (fun h => nomatch h) (by rw [HL.out]; simp; omega) (Nat.le_refl _) ?_)
  intro v3 w3 hv3 hg3 hi3
  have H3 : Hid (Below w.heap.size w w3) := (OwnB.nil w w.heap.size).below hg3 (Nat.le_refl _) (Nat.le_refl _)
  have O3 : Hid (OwnB w3 w.heap.size v3 ((bs.drop k).take m)) := hv3
  clear hi3 hg3 hv3
  go_wp2_with fail
  go_ret3
  exact ⟨_, rfl, O3.out, H3.out⟩

set_option maxHeartbeats 1000000 in
set_option maxRecDepth 100000 in
theorem ref_read_string_some (ao : Option Addr) (bs : List (BitVec 8)) (cap : Nat) (most : Int) (w : World) (hb : BytesAt w ao bs) (hc : bs.length ≤ cap) (hn : ao = none → cap = 0) (hm : cap ≤ 9223372036854775807) (hlen : bs.length ≤ 140737488355328) (hmost : -9223372036854775808 ≤ most ∧ most ≤ 9223372036854775807)
    (n : BitVec 64) (k m : Nat) (hr : rv bs = (n, k, 0)) (hv : rvVal (n, k, 0) = .tuple #[.int .u64 m, .int .i64 k, .int .i64 0]) (hp : 1 ≤ k) (hk : k ≤ bs.length) (h1 : (m : Int) ≤ most) (h2 : m ≤ bs.length - k) :
    Calls Try.prog 118 #[.slice ao bs.length cap, .int .i64 most] w (RsOut w ((bs.drop k).take m, k + m, 0)) := by
  by_cases hck : cap = k
  · exact ref_read_string_end ao bs cap most w hb hc hn hm hlen hmost n k m hr hv hp hk h1 h2 hck
  · exact ref_read_string_mid ao bs cap most w hb hc hn hlen hmost n k m hr hv hp hk h1 h2 hck

set_option maxHeartbeats 2000000 in
set_option maxRecDepth 100000 in
theorem ref_read_string (ao : Option Addr) (bs : List (BitVec 8)) (cap : Nat) (most : Int) (w : World) (hb : BytesAt w ao bs) (hc : bs.length ≤ cap) (hn : ao = none → cap = 0) (hm : cap ≤ 9223372036854775807) (hlen : bs.length ≤ 140737488355328) (hmost : -9223372036854775808 ≤ most ∧ most ≤ 9223372036854775807) :
    Calls Try.prog 118 #[.slice ao bs.length cap, .int .i64 most] w (RsOut w (rs bs most)) := by
  have HB := Lib.hid hb
  have HN := Lib.hid hn
  clear hb hn
  have hk := rv_le bs
  have hp := rv_pos bs
  obtain ⟨n, k, e, hr⟩ : ∃ n k e, rv bs = (n, k, e) := ⟨_, _, _, rfl⟩
  have HR := Lib.hid hr
  rw [hr] at hk hp
  clear hr
  simp only at hk hp
  have hn0 : bv n = (ix n : Int) := rfl
  have hn1 := ix_lt n
  unfold rs
  by_cases h0 : most < 0
  · rw [if_pos h0]
    clear hp hn0 hn1
    go_enter Try.func118, Try.ntmps118
    go_wp2_with fail
    go_ret3
    exact ⟨_, rfl, OwnB.nil _ _, Below.refl _ _⟩
  rw [if_neg h0]
  rw [HR.out]
  simp only
  by_cases he : e = 0
  · subst he
    rw [if_neg (by simp), hn0]
    have hp := hp rfl
    generalize ix n = m at *
    have V : Hid (rvVal (n, k, 0) = .tuple #[.int .u64 m, .int .i64 k, .int .i64 0]) := by unfold rvVal; rw [hn0]; rfl
    clear hn0
    by_cases h1 : most < m
    · rw [if_pos h1]
      go_enter Try.func118, Try.ntmps118
      go_wp2_with fail
      refine (ref_read_varint_to _ bs _ _ _ (.tuple #[.int .u64 m, .int .i64 k, .int .i64 0]) HB.out rfl (by rw [HR.out, V.out])).mono ?_
      rintro e w' ⟨rfl, rfl⟩
      go_wp2_with fail
      go_ret3
      exact ⟨_, rfl, OwnB.nil _ _, Below.refl _ _⟩
    · rw [if_neg h1]
      by_cases h2 : ((bs.length - k : Nat) : Int) < m
      · rw [if_pos h2]
        go_enter Try.func118, Try.ntmps118
        go_wp2_with fail
        refine (ref_read_varint_to _ bs _ _ _ (.tuple #[.int .u64 m, .int .i64 k, .int .i64 0]) HB.out rfl (by rw [HR.out, V.out])).mono ?_
        rintro e w' ⟨rfl, rfl⟩
        go_wp2_with fail
        go_ret3
        exact ⟨_, rfl, OwnB.nil _ _, Below.refl _ _⟩
      · rw [if_neg h2]
        exact ref_read_string_some ao bs cap most w HB.out hc HN.out hm hlen hmost n k m HR.out V.out hp hk (by omega) (by omega)
  · rw [if_pos he]
    have t1 : ((e : Int) != 0) = true := by simp [he]
    have he0 : ¬ (e : Int) = 0 := by omega
    clear he hp hn0 hn1
    go_enter Try.func118, Try.ntmps118
    go_wp2_with fail
    refine (ref_read_varint_to _ bs _ _ _ (.tuple #[.int .u64 (bv n), .int .i64 k, .int .i64 e]) HB.out rfl (by rw [HR.out]; rfl)).mono ?_
    rintro e w' ⟨rfl, rfl⟩
    go_wp2_with fail
    go_ret3
    exact ⟨_, rfl, OwnB.nil _ _, Below.refl _ _⟩
end Go.Proofs.Ytmkljmljbbijeaa

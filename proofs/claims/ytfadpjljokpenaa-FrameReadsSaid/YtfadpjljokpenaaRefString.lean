/- The walk of the document's ReadString. -/
import Derived.Test.YtfadpjljokpenaaWireString
namespace Go.Proofs.Ytfadpjljokpenaa
open Go.RowKit

set_option maxHeartbeats 1000000 in
set_option maxRecDepth 100000 in
theorem ref_read_string_end (ao : Option Addr) (bs : List (BitVec 8)) (cap : Nat) (most : Int) (w : World) (hb : BytesAt w ao bs) (hc : bs.length ≤ cap) (hn : ao = none → cap = 0) (hm : cap ≤ 9223372036854775807) (hlen : bs.length ≤ 140737488355328) (hmost : -9223372036854775808 ≤ most ∧ most ≤ 9223372036854775807)
    (n : BitVec 64) (k m : Nat) (hr : rv bs = (n, k, 0)) (hv : rvVal (n, k, 0) = .tuple #[.int .u64 m, .int .i64 k, .int .i64 0]) (hp : 1 ≤ k) (hk : k ≤ bs.length) (h1 : (m : Int) ≤ most) (h2 : m ≤ bs.length - k) (hck : cap = k) :
    Calls Try.prog 100 #[.slice ao bs.length cap, .int .i64 most] w (RsOut w ((bs.drop k).take m, k + m, 0)) := by
  obtain ⟨b, off, rfl, -⟩ := hb 0 (by omega)
  have HB := Lib.hid hb
  have HR := Lib.hid hr
  have V := Lib.hid hv
  clear hb hn hr hv
  obtain rfl : m = 0 := by omega
  rw [List.take_zero]
  subst hck
  go_enter Try.func100, Try.ntmps100
  go_wp2_with fail
  refine (ref_read_varint_to _ bs _ _ _ (.tuple #[.int .u64 (0 : Nat), .int .i64 cap, .int .i64 0]) HB.out rfl (by rw [HR.out, V.out])).mono ?_
  rintro e w' ⟨rfl, rfl⟩
  go_wp2_with (refine wpList_append_bytes (o := ⟨some 39, _, _, _, _, _⟩) rfl _ _ rfl w.heap.size _ [] rfl (OwnB.nil _ _) (some ⟨b, off, none⟩) _ _ [] rfl (by simp; try omega) (fun i hi => by simp at hi) (fun h => nomatch h) (by simp) (Nat.le_refl _) ?_)
  intro v3 w3 hv3 hg3 hi3
  have H3 : Hid (Below w.heap.size w w3) := (OwnB.nil w w.heap.size).below hg3 (Nat.le_refl _) (Nat.le_refl _)
  have O3 : Hid (OwnB w3 w.heap.size v3 []) := hv3
  clear hi3 hg3 hv3
  go_wp2_with fail
  go_ret3
  exact ⟨_, rfl, O3.out, H3.out⟩

set_option maxHeartbeats 1000000 in
set_option maxRecDepth 100000 in
theorem ref_read_string_mid (ao : Option Addr) (bs : List (BitVec 8)) (cap : Nat) (most : Int) (w : World) (hb : BytesAt w ao bs) (hc : bs.length ≤ cap) (hn : ao = none → cap = 0) (hlen : bs.length ≤ 140737488355328) (hmost : -9223372036854775808 ≤ most ∧ most ≤ 9223372036854775807)
    (n : BitVec 64) (k m : Nat) (hr : rv bs = (n, k, 0)) (hv : rvVal (n, k, 0) = .tuple #[.int .u64 m, .int .i64 k, .int .i64 0]) (hp : 1 ≤ k) (hk : k ≤ bs.length) (h1 : (m : Int) ≤ most) (h2 : m ≤ bs.length - k) (hck : ¬ cap = k) :
    Calls Try.prog 100 #[.slice ao bs.length cap, .int .i64 most] w (RsOut w ((bs.drop k).take m, k + m, 0)) := by
  obtain ⟨b, off, rfl, -⟩ := hb 0 (by omega)
  have HB := Lib.hid hb
  have HR := Lib.hid hr
  have V := Lib.hid hv
  clear hb hn hr hv
  have HS := Lib.hid (HB.out.sub k m)
  have hl : ((bs.drop k).take m).length = m := by simp; omega
  have HL := Lib.hid hl
  clear hl
  go_enter Try.func100, Try.ntmps100
  go_wp2_with fail
  refine (ref_read_varint_to _ bs _ _ _ (.tuple #[.int .u64 m, .int .i64 k, .int .i64 0]) HB.out rfl (by rw [HR.out, V.out])).mono ?_
  rintro e w' ⟨rfl, rfl⟩
  go_wp2_with (refine wpList_append_bytes (o := ⟨some 39, _, _, _, _, _⟩) rfl _ _ rfl w.heap.size _ [] rfl (OwnB.nil _ _) (some ⟨b, off + k, none⟩) _ _ ((bs.drop k).take m) rfl (by rw [HL.out]; try omega) HS.out (fun h => nomatch h) (by rw [HL.out]; simp; omega) (Nat.le_refl _) ?_)
  intro v3 w3 hv3 hg3 hi3
  have H3 : Hid (Below w.heap.size w w3) := (OwnB.nil w w.heap.size).below hg3 (Nat.le_refl _) (Nat.le_refl _)
  have O3 : Hid (OwnB w3 w.heap.size v3 ((bs.drop k).take m)) := hv3
  clear hi3 hg3 hv3
  go_wp2_with fail
  go_ret3
  exact ⟨_, rfl, O3.out, H3.out⟩

set_option maxHeartbeats 1000000 in
set_option maxRecDepth 100000 in
theorem ref_read_string_some (ao : Option Addr) (bs : List (BitVec 8)) (cap : Nat) (most : Int) (w : World) (hb : BytesAt w ao bs) (hc : bs.length ≤ cap) (hn : ao = none → cap = 0) (hm : cap ≤ 9223372036854775807) (hlen : bs.length ≤ 140737488355328) (hmost : -9223372036854775808 ≤ most ∧ most ≤ 9223372036854775807)
    (n : BitVec 64) (k m : Nat) (hr : rv bs = (n, k, 0)) (hv : rvVal (n, k, 0) = .tuple #[.int .u64 m, .int .i64 k, .int .i64 0]) (hp : 1 ≤ k) (hk : k ≤ bs.length) (h1 : (m : Int) ≤ most) (h2 : m ≤ bs.length - k) :
    Calls Try.prog 100 #[.slice ao bs.length cap, .int .i64 most] w (RsOut w ((bs.drop k).take m, k + m, 0)) := by
  by_cases hck : cap = k
  · exact ref_read_string_end ao bs cap most w hb hc hn hm hlen hmost n k m hr hv hp hk h1 h2 hck
  · exact ref_read_string_mid ao bs cap most w hb hc hn hlen hmost n k m hr hv hp hk h1 h2 hck

set_option maxHeartbeats 2000000 in
set_option maxRecDepth 100000 in
theorem ref_read_string (ao : Option Addr) (bs : List (BitVec 8)) (cap : Nat) (most : Int) (w : World) (hb : BytesAt w ao bs) (hc : bs.length ≤ cap) (hn : ao = none → cap = 0) (hm : cap ≤ 9223372036854775807) (hlen : bs.length ≤ 140737488355328) (hmost : -9223372036854775808 ≤ most ∧ most ≤ 9223372036854775807) :
    Calls Try.prog 100 #[.slice ao bs.length cap, .int .i64 most] w (RsOut w (rs bs most)) := by
  have HB := Lib.hid hb
  have HN := Lib.hid hn
  clear hb hn
  have hk := rv_le bs
  have hp := rv_pos bs
  obtain ⟨n, k, e, hr⟩ : ∃ n k e, rv bs = (n, k, e) := ⟨_, _, _, rfl⟩
  have HR := Lib.hid hr
  rw [hr] at hk hp
  clear hr
  simp only at hk hp
  have hn0 : bv n = (ix n : Int) := rfl
  have hn1 := ix_lt n
  unfold rs
  by_cases h0 : most < 0
  · rw [if_pos h0]
    clear hp hn0 hn1
    go_enter Try.func100, Try.ntmps100
    go_wp2_with fail
    go_ret3
    exact ⟨_, rfl, OwnB.nil _ _, Below.refl _ _⟩
  rw [if_neg h0]
  rw [HR.out]
  simp only
  by_cases he : e = 0
  · subst he
    rw [if_neg (by simp), hn0]
    have hp := hp rfl
    generalize ix n = m at *
    have V : Hid (rvVal (n, k, 0) = .tuple #[.int .u64 m, .int .i64 k, .int .i64 0]) := by unfold rvVal; rw [hn0]; rfl
    clear hn0
    by_cases h1 : most < m
    · rw [if_pos h1]
      go_enter Try.func100, Try.ntmps100
      go_wp2_with fail
      refine (ref_read_varint_to _ bs _ _ _ (.tuple #[.int .u64 m, .int .i64 k, .int .i64 0]) HB.out rfl (by rw [HR.out, V.out])).mono ?_
      rintro e w' ⟨rfl, rfl⟩
      go_wp2_with fail
      go_ret3
      exact ⟨_, rfl, OwnB.nil _ _, Below.refl _ _⟩
    · rw [if_neg h1]
      by_cases h2 : ((bs.length - k : Nat) : Int) < m
      · rw [if_pos h2]
        go_enter Try.func100, Try.ntmps100
        go_wp2_with fail
        refine (ref_read_varint_to _ bs _ _ _ (.tuple #[.int .u64 m, .int .i64 k, .int .i64 0]) HB.out rfl (by rw [HR.out, V.out])).mono ?_
        rintro e w' ⟨rfl, rfl⟩
        go_wp2_with fail
        go_ret3
        exact ⟨_, rfl, OwnB.nil _ _, Below.refl _ _⟩
      · rw [if_neg h2]
        exact ref_read_string_some ao bs cap most w HB.out hc HN.out hm hlen hmost n k m HR.out V.out hp hk (by omega) (by omega)
  · rw [if_pos he]
    have t1 : ((e : Int) != 0) = true := by simp [he]
    have he0 : ¬ (e : Int) = 0 := by omega
    clear he hp hn0 hn1
    go_enter Try.func100, Try.ntmps100
    go_wp2_with fail
    refine (ref_read_varint_to _ bs _ _ _ (.tuple #[.int .u64 (bv n), .int .i64 k, .int .i64 e]) HB.out rfl (by rw [HR.out]; rfl)).mono ?_
    rintro e w' ⟨rfl, rfl⟩
    go_wp2_with fail
    go_ret3
    exact ⟨_, rfl, OwnB.nil _ _, Below.refl _ _⟩
end Go.Proofs.Ytfadpjljokpenaa

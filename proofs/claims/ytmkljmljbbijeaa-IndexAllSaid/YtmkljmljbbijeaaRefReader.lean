/- The walks of the document's reader. -/
import Derived.Test.YtmkljmljbbijeaaWireMore
import Derived.Test.YtmkljmljbbijeaaWireReads
import Derived.Test.YtmkljmljbbijeaaMixed
namespace Go.Proofs.Ytmkljmljbbijeaa
open Go.RowKit

/-- The document's reader in block q. -/
structure QAt (w : World) (q : Nat) (ao : Option Addr) (cap : Nat) (bs : List (BitVec 8)) (k bad : Nat) : Prop where
  at0 : w.cell? ⟨q, 0, none⟩ = some (.slice ao bs.length cap)
  at1 : w.cell? ⟨q, 1, none⟩ = some (.int .i64 k)
  at2 : w.cell? ⟨q, 2, none⟩ = some (.int .i64 bad)
  free1 : w.frozen? ⟨q, 1, none⟩ = false
  free2 : w.frozen? ⟨q, 2, none⟩ = false
  le : k ≤ bs.length
  bytes : BytesAt w ao bs
  nil : ao = none → cap = 0
  hcap : bs.length ≤ cap
  mcap : cap ≤ 9223372036854775807
  off : ∀ g off, ao = some ⟨g, off, none⟩ → bs ≠ [] → g ≠ q
theorem QAt.lt {w : World} {q cap k bad : Nat} {ao : Option Addr} {bs : List (BitVec 8)} (h : QAt w q ao cap bs k bad) : q < w.heap.size := block_lt_of_cell h.at1
theorem BytesAt.but' {c : Nat} {w w' : World} {ao : Option Addr} {bs : List (BitVec 8)} (h : BytesAt w ao bs) (hu : But c w w') (hc : ∀ g off, ao = some ⟨g, off, none⟩ → bs ≠ [] → g ≠ c) : BytesAt w' ao bs := fun i hi => by
  obtain ⟨g, off, e, hcell⟩ := h i hi
  exact ⟨g, off, e, hu.cell hcell (hc g off e (by intro h0; subst h0; simp at hi))⟩
theorem QAt.on {w w' : World} {q cap k bad : Nat} {ao : Option Addr} {bs : List (BitVec 8)} (h : QAt w q ao cap bs k bad) (hb : Below w.heap.size w w') : QAt w' q ao cap bs k bad :=
  ⟨cell_keep hb h.at0, cell_keep hb h.at1, cell_keep hb h.at2, (hb.frozen (p := ⟨q, 1, none⟩) h.lt).trans h.free1, (hb.frozen (p := ⟨q, 2, none⟩) h.lt).trans h.free2, h.le, h.bytes.below hb, h.nil, h.hcap, h.mcap, h.off⟩
theorem QAt.moved {w w' : World} {q cap k bad : Nat} {ao : Option Addr} {bs : List (BitVec 8)} (h : QAt w q ao cap bs k bad) (j : Nat) (hj : j ≤ bs.length) (hu : Upd q 1 (.int .i64 j) w w') : QAt w' q ao cap bs j bad :=
  ⟨(hu.others 0 (by omega)).trans h.at0, hu.val, (hu.others 2 (by omega)).trans h.at2, (hu.frozen 1).trans h.free1, (hu.frozen 2).trans h.free2, hj, h.bytes.but' hu.but h.off, h.nil, h.hcap, h.mcap, h.off⟩
theorem QAt.stopped {w w' : World} {q cap k bad : Nat} {ao : Option Addr} {bs : List (BitVec 8)} (h : QAt w q ao cap bs k bad) (e : Nat) (hu : Upd q 2 (.int .i64 e) w w') : QAt w' q ao cap bs k e :=
  ⟨(hu.others 0 (by omega)).trans h.at0, (hu.others 1 (by omega)).trans h.at1, hu.val, (hu.frozen 1).trans h.free1, (hu.frozen 2).trans h.free2, h.le, h.bytes.but' hu.but h.off, h.nil, h.hcap, h.mcap, h.off⟩

/-- What a reading call leaves: it has gone on, or it has stopped, or it had. -/
structure QNow (w w' : World) (q : Nat) (ao : Option Addr) (cap : Nat) (bs : List (BitVec 8)) (k bad : Nat) : Prop where
  at' : QAt w' q ao cap bs k bad
  but : But q w w'

/-- The readings of a number: v, the place and the error behind them. -/
def VarH (bs : List (BitVec 8)) (k bad : Nat) (most : BitVec 64) (v : BitVec 64) (k' bad' : Nat) : Prop :=
  (bad = 0 ∧ ∃ j, rv (bs.drop k) = (v, j, 0) ∧ bv v ≤ bv most ∧ k' = k + j ∧ bad' = 0) ∨
  (v = 0#64 ∧ k' = k ∧ bad' ≠ 0 ∧ (bad = 0 ∧ (rn bs k most).2.2 = bad' ∨ bad = bad'))
theorem varH_some (bs : List (BitVec 8)) (k bad : Nat) (most : BitVec 64) : ∃ v k' bad', VarH bs k bad most v k' bad' := by
  by_cases hb : bad = 0
  · obtain ⟨n, j, e, hr⟩ : ∃ n j e, rv (bs.drop k) = (n, j, e) := ⟨_, _, _, rfl⟩
    by_cases he : e = 0
    · subst he
      by_cases h : bv n ≤ bv most
      · exact ⟨n, k + j, 0, .inl ⟨hb, j, hr, h, rfl, rfl⟩⟩
      · exact ⟨0#64, k, 3, .inr ⟨rfl, rfl, by omega, .inl ⟨hb, by unfold rn; rw [hr, if_pos ⟨rfl, by simp only; omega⟩]⟩⟩⟩
    · exact ⟨0#64, k, e, .inr ⟨rfl, rfl, he, .inl ⟨hb, by unfold rn; rw [hr, if_neg (by simp only; exact fun h => he h.1)]⟩⟩⟩
  · exact ⟨0#64, k, bad, .inr ⟨rfl, rfl, hb, .inr rfl⟩⟩

set_option maxHeartbeats 1000000 in
set_option maxRecDepth 100000 in
/-- A reader that has stopped. -/
theorem q_varint_bad (q : Nat) (ao : Option Addr) (cap : Nat) (bs : List (BitVec 8)) (k bad : Nat) (most : BitVec 64) (w : World) (hQ : QAt w q ao cap bs k bad) (hb : bad ≠ 0) :
    Calls Try.prog 86 #[.pointer (some ⟨q, 0, none⟩), .int .u64 (bv most)] w fun x w' => x = .returned (.int .u64 0) ∧ w = w' := by
  have h2 := hQ.at2
  have hb0 : ¬ (bad : Int) = 0 := by omega
  clear hQ
  go_enter Try.func86, Try.ntmps86
  go_wp2_with fail
  go_ret
  exact ⟨rfl, rfl⟩

/-- The bytes from k on, as a slice of them lies. -/
theorem QAt.rest {w : World} {q cap k bad : Nat} {ao : Option Addr} {bs : List (BitVec 8)} (h : QAt w q ao cap bs k bad) :
    (cap = k ∧ bs.length = k ∧ BytesAt w ao (bs.drop k)) ∨ (cap ≠ k ∧ ∃ g off, ao = some ⟨g, off, none⟩ ∧ BytesAt w (some ⟨g, off + k, none⟩) (bs.drop k)) ∨ (cap ≠ k ∧ k = 0 ∧ bs = [] ∧ BytesAt w ao []) := by
  by_cases hck : cap = k
  · have := h.le
    have := h.hcap
    refine .inl ⟨hck, by omega, ?_⟩
    rw [List.drop_eq_nil_of_le (by omega)]; exact fun i hi => by simp at hi
  · by_cases hb : bs = []
    · subst hb
      have := h.le
      exact .inr (.inr ⟨hck, by simpa using this, rfl, fun i hi => by simp at hi⟩)
    · obtain ⟨g, off, e, _⟩ := h.bytes 0 (List.length_pos_iff.2 hb)
      subst e
      exact .inr (.inl ⟨hck, g, off, rfl, h.bytes.drop k⟩)

theorem q_moved {w w1 : World} {q cap k bad j : Nat} {ao : Option Addr} {bs : List (BitVec 8)} (h : QAt w q ao cap bs k bad) (hj : k + j ≤ bs.length) (x : Int) (hx : x = (k : Int) + (j : Int)) (hb : Below w.heap.size w w1) :
    QNow w (w1.setCell ⟨q, 1, none⟩ (.int .i64 x)) q ao cap bs (k + j) bad := by
  subst hx
  have hU : Upd q 1 (.int .i64 ((k + j : Nat) : Int)) w (w1.setCell ⟨q, 1, none⟩ (.int .i64 ((k + j : Nat) : Int))) := Upd.of hb h.at1
  rw [Int.natCast_add] at hU
  exact ⟨h.moved (k + j) hj (by rw [Int.natCast_add]; exact hU), hU.but⟩
theorem q_stopped {w w1 : World} {q cap k bad : Nat} {ao : Option Addr} {bs : List (BitVec 8)} (h : QAt w q ao cap bs k bad) (x : Int) (e : Nat) (hx : x = (e : Int)) (hb : Below w.heap.size w w1) :
    QNow w (w1.setCell ⟨q, 2, none⟩ (.int .i64 x)) q ao cap bs k e := by
  subst hx
  have hU : Upd q 2 (.int .i64 e) w (w1.setCell ⟨q, 2, none⟩ (.int .i64 e)) := Upd.of hb h.at2
  exact ⟨h.stopped e hU, hU.but⟩
set_option maxHeartbeats 1000000 in
set_option maxRecDepth 100000 in
theorem q_varint_go (q : Nat) (ao : Option Addr) (cap : Nat) (bs : List (BitVec 8)) (k : Nat) (most : BitVec 64) (w : World) (hQ : QAt w q ao cap bs k 0) (hm : bs.length ≤ 140737488355328) (n : BitVec 64) (j e : Nat) (hr : rv (bs.drop k) = (n, j, e)) (v : BitVec 64) (k' bad' : Nat)
    (h : (e = 0 ∧ bv n ≤ bv most ∧ v = n ∧ k' = k + j ∧ bad' = 0) ∨ (e = 0 ∧ bv most < bv n ∧ bad' = 3 ∧ v = 0#64 ∧ k = k') ∨ (e ≠ 0 ∧ bad' = e ∧ v = 0#64 ∧ k = k')) :
    Calls Try.prog 86 #[.pointer (some ⟨q, 0, none⟩), .int .u64 (bv most)] w fun x w' => x = .returned (.int .u64 (bv v)) ∧ QNow w w' q ao cap bs k' bad' := by
  have HQ := Lib.hid hQ
  have h0 := hQ.at0
  have h1 := hQ.at1
  have h2 : w.cell? ⟨q, 2, none⟩ = some (.int .i64 0) := hQ.at2
  have f1 := hQ.free1
  have f2 := hQ.free2
  have hk := hQ.le
  have hc := hQ.hcap
  have hmc := hQ.mcap
  have HJ := Lib.hid (show k + j ≤ bs.length by have := rv_le (bs.drop k); rw [hr] at this; simp at this; omega)
  have HR := Lib.hid hQ.rest
  have hkj : (k : Int) + (j : Int) ≤ 140737488355328 := by have := HJ.out; omega
  clear hQ
  rcases h with ⟨rfl, hmo, rfl, rfl, rfl⟩ | ⟨rfl, hmo, rfl, rfl, rfl⟩ | ⟨he, rfl, rfl, rfl⟩
  · have HV : Hid (rvVal (rv (bs.drop k)) = .tuple #[.int .u64 (bv v), .int .i64 j, .int .i64 0]) := Lib.hid (by rw [hr]; rfl)
    clear hr
    rcases HR.out with ⟨hck, hz, hb⟩ | ⟨hck, g, off, rfl, hb⟩ | ⟨hck, rfl, rfl, hb⟩
    · have HB := Lib.hid hb
      have hz' : bs.length ≤ k := by omega
      clear hb hz
      subst hck
      go_enter Try.func86, Try.ntmps86
      go_wp2_with fail
      go_quiet (first | (go_at_call 106; exact (ref_read_varint_to _ (List.drop cap bs) _ _ _ _ (HB.out.drewN _) (by have h := List.length_drop (i := cap) (l := bs); omega) HV.out).mono fun _ _ ⟨he, hw⟩ => ⟨he, _, hw.symm⟩))
      go_wp2_with fail
      go_ret
      exact ⟨rfl, q_moved HQ.out HJ.out _ (by omega) (below_drewN _ _)⟩
    · have HB := Lib.hid hb
      clear hb
      go_enter Try.func86, Try.ntmps86
      go_wp2_with fail
      go_quiet (first | (go_at_call 106; exact (ref_read_varint_to _ (List.drop k bs) _ _ _ _ (HB.out.drewN _) (by have h := List.length_drop (i := k) (l := bs); omega) HV.out).mono fun _ _ ⟨he, hw⟩ => ⟨he, _, hw.symm⟩))
      go_wp2_with fail
      go_ret
      exact ⟨rfl, q_moved HQ.out HJ.out _ (by omega) (below_drewN _ _)⟩
    · obtain ⟨a, rfl⟩ : ∃ a, ao = some a := by
        cases ao with
        | none => exact absurd (HQ.out.nil rfl) hck
        | some a => exact ⟨a, rfl⟩
      clear hb
      go_enter Try.func86, Try.ntmps86
      go_wp2_with fail
      go_quiet (first | (go_at_call 106; exact (ref_read_varint_to _ (List.drop 0 []) _ _ _ _ (fun i hi => by simp at hi) (by have h := List.length_drop (i := 0) (l := ([] : List (BitVec 8))); omega) HV.out).mono fun _ _ ⟨he, hw⟩ => ⟨he, _, hw.symm⟩))
      go_wp2_with fail
      go_ret
      exact ⟨rfl, q_moved HQ.out HJ.out _ (by omega) (below_drewN _ _)⟩
  · have HV : Hid (rvVal (rv (bs.drop k)) = .tuple #[.int .u64 (bv n), .int .i64 j, .int .i64 0]) := Lib.hid (by rw [hr]; rfl)
    clear hr
    rcases HR.out with ⟨hck, hz, hb⟩ | ⟨hck, g, off, rfl, hb⟩ | ⟨hck, rfl, rfl, hb⟩
    · have HB := Lib.hid hb
      have hz' : bs.length ≤ k := by omega
      clear hb hz
      subst hck
      go_enter Try.func86, Try.ntmps86
      go_wp2_with fail
      go_quiet (first | (go_at_call 106; exact (ref_read_varint_to _ (List.drop cap bs) _ _ _ _ (HB.out.drewN _) (by have h := List.length_drop (i := cap) (l := bs); omega) HV.out).mono fun _ _ ⟨he, hw⟩ => ⟨he, _, hw.symm⟩))
      go_wp2_with fail
      go_ret
      exact ⟨rfl, q_stopped HQ.out _ 3 rfl (below_drewN _ _)⟩
    · have HB := Lib.hid hb
      clear hb
      go_enter Try.func86, Try.ntmps86
      go_wp2_with fail
      go_quiet (first | (go_at_call 106; exact (ref_read_varint_to _ (List.drop k bs) _ _ _ _ (HB.out.drewN _) (by have h := List.length_drop (i := k) (l := bs); omega) HV.out).mono fun _ _ ⟨he, hw⟩ => ⟨he, _, hw.symm⟩))
      go_wp2_with fail
      go_ret
      exact ⟨rfl, q_stopped HQ.out _ 3 rfl (below_drewN _ _)⟩
    · obtain ⟨a, rfl⟩ : ∃ a, ao = some a := by
        cases ao with
        | none => exact absurd (HQ.out.nil rfl) hck
        | some a => exact ⟨a, rfl⟩
      clear hb
      go_enter Try.func86, Try.ntmps86
      go_wp2_with fail
      go_quiet (first | (go_at_call 106; exact (ref_read_varint_to _ (List.drop 0 []) _ _ _ _ (fun i hi => by simp at hi) (by have h := List.length_drop (i := 0) (l := ([] : List (BitVec 8))); omega) HV.out).mono fun _ _ ⟨he, hw⟩ => ⟨he, _, hw.symm⟩))
      go_wp2_with fail
      go_ret
      exact ⟨rfl, q_stopped HQ.out _ 3 rfl (below_drewN _ _)⟩
  · have HV : Hid (rvVal (rv (bs.drop k)) = .tuple #[.int .u64 (bv n), .int .i64 j, .int .i64 bad']) := Lib.hid (by rw [hr]; rfl)
    clear hr
    have he0 : ¬ (bad' : Int) = 0 := by omega
    have he1 : ((bad' : Int) == 0) = false := by simp; omega
    rcases HR.out with ⟨hck, hz, hb⟩ | ⟨hck, g, off, rfl, hb⟩ | ⟨hck, rfl, rfl, hb⟩
    · have HB := Lib.hid hb
      have hz' : bs.length ≤ k := by omega
      clear hb hz
      subst hck
      go_enter Try.func86, Try.ntmps86
      go_wp2_with fail
      go_quiet (first | (go_at_call 106; exact (ref_read_varint_to _ (List.drop cap bs) _ _ _ _ (HB.out.drewN _) (by have h := List.length_drop (i := cap) (l := bs); omega) HV.out).mono fun _ _ ⟨he, hw⟩ => ⟨he, _, hw.symm⟩))
      go_wp2_with fail
      go_ret
      exact ⟨rfl, q_stopped HQ.out _ bad' rfl (below_drewN _ _)⟩
    · have HB := Lib.hid hb
      clear hb
      go_enter Try.func86, Try.ntmps86
      go_wp2_with fail
      go_quiet (first | (go_at_call 106; exact (ref_read_varint_to _ (List.drop k bs) _ _ _ _ (HB.out.drewN _) (by have h := List.length_drop (i := k) (l := bs); omega) HV.out).mono fun _ _ ⟨he, hw⟩ => ⟨he, _, hw.symm⟩))
      go_wp2_with fail
      go_ret
      exact ⟨rfl, q_stopped HQ.out _ bad' rfl (below_drewN _ _)⟩
    · obtain ⟨a, rfl⟩ : ∃ a, ao = some a := by
        cases ao with
        | none => exact absurd (HQ.out.nil rfl) hck
        | some a => exact ⟨a, rfl⟩
      clear hb
      go_enter Try.func86, Try.ntmps86
      go_wp2_with fail
      go_quiet (first | (go_at_call 106; exact (ref_read_varint_to _ (List.drop 0 []) _ _ _ _ (fun i hi => by simp at hi) (by have h := List.length_drop (i := 0) (l := ([] : List (BitVec 8))); omega) HV.out).mono fun _ _ ⟨he, hw⟩ => ⟨he, _, hw.symm⟩))
      go_wp2_with fail
      go_ret
      exact ⟨rfl, q_stopped HQ.out _ bad' rfl (below_drewN _ _)⟩
theorem q_varint (q : Nat) (ao : Option Addr) (cap : Nat) (bs : List (BitVec 8)) (k bad : Nat) (most : BitVec 64) (w : World) (hQ : QAt w q ao cap bs k bad) (hm : bs.length ≤ 140737488355328) (v : BitVec 64) (k' bad' : Nat) (H : VarH bs k bad most v k' bad') :
    Calls Try.prog 86 #[.pointer (some ⟨q, 0, none⟩), .int .u64 (bv most)] w fun x w' => x = .returned (.int .u64 (bv v)) ∧ QNow w w' q ao cap bs k' bad' := by
  rcases H with ⟨rfl, j, hr, hmo, rfl, rfl⟩ | ⟨rfl, rfl, hb', ⟨rfl, h⟩ | rfl⟩
  · exact q_varint_go q ao cap bs k most w hQ hm v j 0 hr v _ _ (.inl ⟨rfl, hmo, rfl, rfl, rfl⟩)
  · obtain ⟨n, j, e, hr⟩ : ∃ n j e, rv (bs.drop k') = (n, j, e) := ⟨_, _, _, rfl⟩
    refine q_varint_go q ao cap bs k' most w hQ hm n j e hr _ _ _ (.inr ?_)
    unfold rn at h
    rw [hr] at h
    by_cases he : e = 0
    · subst he
      by_cases hn : bv most < bv n
      · rw [if_pos ⟨rfl, hn⟩] at h
        exact .inl ⟨rfl, hn, h.symm, rfl, rfl⟩
      · rw [if_neg (fun h => hn h.2)] at h
        exact absurd h.symm hb'
    · rw [if_neg (fun h => he h.1)] at h
      exact .inr ⟨he, h.symm, rfl, rfl⟩
  · exact (q_varint_bad q ao cap bs k' bad most w hQ hb').mono fun _ _ ⟨he, hw⟩ => ⟨he, hw ▸ ⟨hQ, But.refl _ _⟩⟩

set_option maxRecDepth 100000 in
theorem q_signed (q : Nat) (ao : Option Addr) (cap : Nat) (bs : List (BitVec 8)) (k bad : Nat) (w : World) (hQ : QAt w q ao cap bs k bad) (hm : bs.length ≤ 140737488355328) (v : BitVec 64) (k' bad' : Nat) (H : VarH bs k bad 18446744073709551615#64 v k' bad') :
    Calls Try.prog 95 #[.pointer (some ⟨q, 0, none⟩)] w fun x w' => x = .returned (.int .i64 (zag (bv v))) ∧ QNow w w' q ao cap bs k' bad' := by
  have HQ := Lib.hid hQ
  have HH := Lib.hid H
  have HV := Lib.hid (bv_range' v)
  clear hQ H
  go_enter Try.func95, Try.ntmps95
  go_wp2_with fail
  refine (q_varint q ao cap bs k bad 18446744073709551615#64 _ HQ.out hm v k' bad' HH.out).mono ?_
  rintro x w1 ⟨rfl, hN⟩
  have HN := Lib.hid hN
  clear hN
  go_wp2_with fail
  refine (ref_zag _ _ HV.out.1 HV.out.2).mono ?_
  rintro x w2 ⟨rfl, rfl⟩
  go_wp2_with fail
  go_ret
  exact ⟨rfl, HN.out⟩

theorem wrap_ma (x y : BitVec 64) : IntKind.u64.wrap (IntKind.u64.wrap (bv x * 256) + bv y) = bv (x * 256#64 + y) := by
  unfold bv
  rw [IntKind.wrap_u64, IntKind.wrap_u64, BitVec.toNat_add, BitVec.toNat_mul]
  simp
set_option maxRecDepth 100000 in
theorem ref_number (ao : Option Addr) (bs : List (BitVec 8)) (cap : Nat) (w : World) (hb : BytesAt w ao bs) (hl : bs.length ≤ 8) :
    Calls Try.prog 84 #[.slice ao bs.length cap] w fun x w' => x = .returned (.int .u64 (bv (leB bs))) ∧ w = w' := by
  have HB := Lib.hid hb
  clear hb
  go_enter Try.func84, Try.ntmps84
  go_wp2_with fail
  go_loop [3, 4] (fun n i => ∃ t : Nat, t ≤ bs.length ∧ i = .int .i64 ((t : Int) - 1) ∧ n = .int .u64 (bv (leB (bs.drop t)))) (fun _ i => (intOf i + 1).toNat)
  case atStart => exact ⟨bs.length, Nat.le_refl _, rfl, by rw [List.drop_length]; rfl⟩
  case round =>
    obtain ⟨t, ht, rfl, rfl⟩ := hrel
    cases t with
    | zero =>
      have HZ := Lib.hid (show bs.drop 0 = bs from rfl)
      go_wp2_with fail
      go_ret
      exact ⟨rfl, rfl⟩
    | succ t =>
      obtain ⟨b, off, rfl, hc⟩ := HB.out t (by omega)
      have HE := Lib.hid (show at8 bs t :: bs.drop (t + 1) = bs.drop t from (drop_cons bs t (by omega)).symm)
      have HN := Lib.hid (leB_cons (at8 bs t) (bs.drop (t + 1)))
      have ei : ((t + 1 : Nat) : Int) - 1 = (t : Int) := by omega
      rw [ei]
      rw [HE.out] at HN
      clear ei
      have hlt : t < bs.length := by omega
      go_wp2_with fail
      go_round
      case rel => exact ⟨t, by omega, by go_num, by rw [← HN.out, wrap_ma]⟩
      case measure => simp [intOf]

theorem ref_number_to (ao : Option Addr) (bs : List (BitVec 8)) (n cap : Nat) (w : World) (hb : BytesAt w ao bs) (hn : bs.length = n) (hl : bs.length ≤ 8) :
    Calls Try.prog 84 #[.slice ao n cap] w fun x w' => x = .returned (.int .u64 (bv (leB bs))) ∧ w = w' := by
  subst hn; exact ref_number ao bs cap w hb hl
/-- The readings of so many bytes. -/
def FixH (bs : List (BitVec 8)) (k bad size : Nat) (v : BitVec 64) (k' bad' : Nat) : Prop :=
  (bad = 0 ∧ k + size ≤ bs.length ∧ v = leB ((bs.drop k).take size) ∧ k' = k + size ∧ bad' = 0) ∨
  (v = 0#64 ∧ k = k' ∧ bad' ≠ 0 ∧ LowStop bs k bad size bad')
theorem fixH_some (bs : List (BitVec 8)) (k bad size : Nat) (hk : k ≤ bs.length) : ∃ v k' bad', FixH bs k bad size v k' bad' := by
  by_cases hb : bad = 0
  · by_cases h : k + size ≤ bs.length
    · exact ⟨_, _, _, .inl ⟨hb, h, rfl, rfl, rfl⟩⟩
    · exact ⟨0#64, k, 2, .inr ⟨rfl, rfl, by omega, .inl ⟨hb, by omega, rfl⟩⟩⟩
  · exact ⟨0#64, k, bad, .inr ⟨rfl, rfl, hb, .inr rfl⟩⟩

set_option maxRecDepth 100000 in
theorem q_take_ok (q : Nat) (ao : Option Addr) (cap : Nat) (bs : List (BitVec 8)) (k size : Nat) (w : World) (hQ : QAt w q ao cap bs k 0) (hm : bs.length ≤ 140737488355328) (hs : k + size ≤ bs.length) (h1 : 1 ≤ size) :
    Calls Try.prog 107 #[.pointer (some ⟨q, 0, none⟩), .int .i64 size] w fun x w' => ∃ ao' n cap', x = .returned (.tuple #[.slice ao' n cap', .bool true]) ∧ n = size ∧ BytesAt w' ao' ((bs.drop k).take size) ∧ QNow w w' q ao cap bs (k + size) 0 := by
  have HQ := Lib.hid hQ
  have h0 := hQ.at0
  have h1' := hQ.at1
  have h2 : w.cell? ⟨q, 2, none⟩ = some (.int .i64 0) := hQ.at2
  have f1 := hQ.free1
  have hc := hQ.hcap
  have hmc := hQ.mcap
  obtain ⟨g, off, rfl⟩ : ∃ g off, ao = some ⟨g, off, none⟩ := by
    obtain ⟨g, off, e, _⟩ := hQ.bytes 0 (by omega)
    exact ⟨g, off, e⟩
  have HB := Lib.hid (hQ.bytes.sub k size)
  have ho : bs ≠ [] := fun h => by subst h; simp at hs; omega
  have HO := Lib.hid (hQ.off g off rfl ho)
  clear hQ ho
  go_enter Try.func107, Try.ntmps107
  go_wp2_with fail
  go_quiet (fail)
  go_wp2_with fail
  go_quiet (fail)
  go_wp2_with fail
  have N := fun m => q_moved HQ.out hs _ rfl (below_drewN w m)
  go_ret2
  exact ⟨_, _, _, rfl, by omega, (N _).but.bytes HB.out (fun g' off' e => by injection e with e; injection e with e; subst e; exact HO.out), N _⟩

set_option maxRecDepth 100000 in
theorem q_take_stop (q : Nat) (ao : Option Addr) (cap : Nat) (bs : List (BitVec 8)) (k bad size : Nat) (w : World) (hQ : QAt w q ao cap bs k bad) (hm : bs.length ≤ 140737488355328) (e : Nat) (he : e ≠ 0) (h : LowStop bs k bad size e) :
    Calls Try.prog 107 #[.pointer (some ⟨q, 0, none⟩), .int .i64 size] w fun x w' => x = .returned (.tuple #[.slice none 0 0, .bool false]) ∧ QNow w w' q ao cap bs k e := by
  have HQ := Lib.hid hQ
  have h0 := hQ.at0
  have h1 := hQ.at1
  have f2 := hQ.free2
  have hk := hQ.le
  rcases h with ⟨rfl, h, rfl⟩ | rfl
  · have h2 : w.cell? ⟨q, 2, none⟩ = some (.int .i64 0) := hQ.at2
    clear hQ
    go_enter Try.func107, Try.ntmps107
    go_wp2_with fail
    go_quiet (fail)
    go_wp2_with fail
    go_ret2
    exact ⟨rfl, q_stopped HQ.out _ 2 rfl (below_drewN _ _)⟩
  · have h2 := hQ.at2
    have hb0 : ¬ (bad : Int) = 0 := by omega
    clear hQ
    go_enter Try.func107, Try.ntmps107
    go_wp2_with fail
    go_ret2
    exact ⟨rfl, HQ.out, But.refl _ _⟩

set_option maxRecDepth 100000 in
theorem q_fixed (q : Nat) (ao : Option Addr) (cap : Nat) (bs : List (BitVec 8)) (k bad size : Nat) (w : World) (hQ : QAt w q ao cap bs k bad) (hm : bs.length ≤ 140737488355328) (h1 : 1 ≤ size) (h8 : size ≤ 8) (v : BitVec 64) (k' bad' : Nat) (H : FixH bs k bad size v k' bad') :
    Calls Try.prog 87 #[.pointer (some ⟨q, 0, none⟩), .int .i64 size] w fun x w' => x = .returned (.int .u64 (bv v)) ∧ QNow w w' q ao cap bs k' bad' := by
  have HQ := Lib.hid hQ
  clear hQ
  rcases H with ⟨rfl, hs, rfl, rfl, rfl⟩ | ⟨rfl, rfl, hb', h⟩
  · go_enter Try.func87, Try.ntmps87
    go_wp2_with fail
    refine (q_take_ok q ao cap bs k size _ HQ.out hm hs h1).mono ?_
    rintro x w1 ⟨ao', n, cap', rfl, hn, hb, hN⟩
    have HN := Lib.hid hN
    have HB := Lib.hid hb
    have HL := Lib.hid (show ((bs.drop k).take size).length = n by simp; omega)
    have HL8 := Lib.hid (show ((bs.drop k).take size).length ≤ 8 by simp; omega)
    clear hN hb hn
    go_wp2_with fail
    refine (ref_number_to ao' _ n cap' _ HB.out HL.out HL8.out).mono ?_
    rintro x w2 ⟨rfl, rfl⟩
    go_wp2_with fail
    go_ret
    exact ⟨rfl, HN.out⟩
  · have HH := Lib.hid h
    clear h
    go_enter Try.func87, Try.ntmps87
    go_wp2_with fail
    refine (q_take_stop q ao cap bs k bad size _ HQ.out hm bad' hb' HH.out).mono ?_
    rintro x w1 ⟨rfl, hN⟩
    have HN := Lib.hid hN
    clear hN
    go_wp2_with fail
    go_ret
    exact ⟨rfl, HN.out⟩

set_option maxRecDepth 100000 in
theorem q_place (q : Nat) (ao : Option Addr) (cap : Nat) (bs : List (BitVec 8)) (k bad : Nat) (w : World) (hQ : QAt w q ao cap bs k bad) :
    Calls Try.prog 69 #[.pointer (some ⟨q, 0, none⟩)] w fun e w' => e = .returned (.tuple #[.int .i64 (if bad = 0 then 0 else k), .int .i64 bad]) ∧ ∃ n, w' = w.drewN n := by
  have h1 := hQ.at1
  have h2 := hQ.at2
  clear hQ
  by_cases hb : bad = 0
  · subst hb
    go_enter Try.func69, Try.ntmps69
    go_wp2_with fail
    go_ret2
    exact ⟨rfl, 0, rfl⟩
  · rw [if_neg hb]
    have hb0 : ¬ (bad : Int) = 0 := by omega
    clear hb
    go_enter Try.func69, Try.ntmps69
    go_wp2_with fail
    go_quiet (fail)
    go_wp2_with fail
    go_ret2
    exact ⟨rfl, nq, rfl⟩

/-- The readings of a string. -/
def StrH (bs : List (BitVec 8)) (k bad : Nat) (most : Int) (s : List (BitVec 8)) (k' bad' : Nat) : Prop :=
  (bad = 0 ∧ ∃ j, rs (bs.drop k) most = (s, j, 0) ∧ k' = k + j ∧ bad' = 0) ∨
  (s = [] ∧ k = k' ∧ bad' ≠ 0 ∧ (bad = 0 ∧ (rs (bs.drop k) most).2.2 = bad' ∨ bad = bad'))
theorem strH_some (bs : List (BitVec 8)) (k bad : Nat) (most : Int) : ∃ s k' bad', StrH bs k bad most s k' bad' := by
  by_cases hb : bad = 0
  · obtain ⟨s, j, e, hr⟩ : ∃ s j e, rs (bs.drop k) most = (s, j, e) := ⟨_, _, _, rfl⟩
    by_cases he : e = 0
    · subst he
      exact ⟨s, k + j, 0, .inl ⟨hb, j, hr, rfl, rfl⟩⟩
    · exact ⟨[], k, e, .inr ⟨rfl, rfl, he, .inl ⟨hb, by rw [hr]⟩⟩⟩
  · exact ⟨[], k, bad, .inr ⟨rfl, rfl, hb, .inr rfl⟩⟩

set_option maxHeartbeats 1000000 in
set_option maxRecDepth 100000 in
theorem q_string_bad (q : Nat) (ao : Option Addr) (cap : Nat) (bs : List (BitVec 8)) (k bad : Nat) (most : Int) (w : World) (hQ : QAt w q ao cap bs k bad) (hb : bad ≠ 0) :
    Calls Try.prog 98 #[.pointer (some ⟨q, 0, none⟩), .int .i64 most] w fun x w' => x = .returned (.slice none 0 0) ∧ w = w' := by
  have h2 := hQ.at2
  have hb0 : ¬ (bad : Int) = 0 := by omega
  clear hQ
  go_enter Try.func98, Try.ntmps98
  go_wp2_with fail
  go_ret
  exact ⟨rfl, rfl⟩

set_option maxHeartbeats 2000000 in
set_option maxRecDepth 100000 in
theorem q_string_go (q : Nat) (ao : Option Addr) (cap : Nat) (bs : List (BitVec 8)) (k : Nat) (most : Int) (w : World) (hQ : QAt w q ao cap bs k 0) (hm : bs.length ≤ 140737488355328) (hmost : -9223372036854775808 ≤ most ∧ most ≤ 9223372036854775807) (s : List (BitVec 8)) (j e : Nat) (hr : rs (bs.drop k) most = (s, j, e)) (k' bad' : Nat)
    (h : (e = 0 ∧ k' = k + j ∧ bad' = 0) ∨ (e ≠ 0 ∧ bad' = e ∧ s = [] ∧ k = k')) :
    Calls Try.prog 98 #[.pointer (some ⟨q, 0, none⟩), .int .i64 most] w fun x w' => ∃ v, x = .returned v ∧ OwnB w' w.heap.size v s ∧ QNow w w' q ao cap bs k' bad' := by
  have HQ := Lib.hid hQ
  have h0 := hQ.at0
  have h1 := hQ.at1
  have h2 : w.cell? ⟨q, 2, none⟩ = some (.int .i64 0) := hQ.at2
  have f1 := hQ.free1
  have f2 := hQ.free2
  have hk := hQ.le
  have hc := hQ.hcap
  have hmc := hQ.mcap
  have HMo := Lib.hid hmost
  have HR := Lib.hid hQ.rest
  have k0 : ∀ p : In (fun w' => Below w.heap.size w w'), p.w.cell? ⟨q, 0, none⟩ = some (.slice ao bs.length cap) := fun p => cell_keep p.h h0
  have k1 : ∀ p : In (fun w' => Below w.heap.size w w'), p.w.cell? ⟨q, 1, none⟩ = some (.int .i64 k) := fun p => cell_keep p.h h1
  clear hQ hmost
  rcases h with ⟨rfl, rfl, rfl⟩ | ⟨he, rfl, rfl, rfl⟩
  · have HV := Lib.hid hr
    have HJ := Lib.hid (show k + j ≤ bs.length by have := rs_end hr; simp at this; omega)
    have hkj : (k : Int) + (j : Int) ≤ 140737488355328 := by have := HJ.out; omega
    clear hr
    rcases HR.out with ⟨hck, hz, hb⟩ | ⟨hck, g, off, rfl, hb⟩ | ⟨hck, rfl, rfl, hb⟩
    · have HB := Lib.hid hb
      have hz' : bs.length ≤ k := by omega
      clear hb hz
      subst hck
      go_enter Try.func98, Try.ntmps98
      go_wp2_with fail
      refine wp_region_mixed [0, 1, 2, 3, 4, 5, 6, 7, 8, 9, 10, 11, 12, 13, 14, 15, 16, 17] (fun w' => Below w.heap.size w w') (by kernel_rfl) (by kernel_rfl) (by intro c a d v w h; cases d <;> exact h) (below_drew _) ?_
      intro hne
      simp only [pick, List.map_cons, List.map_nil, List.getD_cons_zero, List.getD_cons_succ]
      refine wpMix_reads 10 _ (by kernel_rfl) ?_
      simp only [List.take_succ_cons, List.take_zero, List.drop_succ_cons, List.drop_zero]
      repeat (go_big_quiet_step (fail))
      refine wpQuiet_nil ?_
      refine wpMix_act rfl ?_ rfl
      go_wp2_with fail
      refine (ref_read_string_to _ (List.drop cap bs) _ _ most _ (s, j, 0) (HB.out.below (below_drew _)) (by have h := List.length_drop (i := cap) (l := bs); omega) (by omega) (fun h => by have := HQ.out.nil h; omega) (by omega) (by omega) HMo.out HV.out).mono ?_
      rintro x w1 ⟨v, rfl, hO, hb⟩
      have O1 := Lib.hid (show OwnB w1 w.heap.size v s from hO)
      have B1 := Lib.hid (below_trans (below_drew _) hb)
      have c1 := cell_keep B1.out h1
      have g1 := (B1.out.frozen (block_lt_of_cell h1)).trans f1
      clear hO hb
      go_wp2_with fail
      refine ⟨⟨⟨_, B1.out⟩, rfl⟩, ?_⟩
      refine wpMix_reads 7 _ (by kernel_rfl) ?_
      simp only [List.take_succ_cons, List.take_zero, List.drop_succ_cons, List.drop_zero]
      repeat (go_big_quiet_step (fail))
      refine wpQuiet_nil ?_
      refine wpMix_nil ?_
      clear hne k0 k1
      go_wp2_with fail
      go_ret
      exact ⟨_, rfl, O1.out.but (c := q) ((But.refl q w1).setB 1 _) HQ.out.lt, q_moved HQ.out HJ.out _ (by omega) B1.out⟩
    · have HB := Lib.hid hb
      clear hb
      go_enter Try.func98, Try.ntmps98
      go_wp2_with fail
      refine wp_region_mixed [0, 1, 2, 3, 4, 5, 6, 7, 8, 9, 10, 11, 12, 13, 14, 15, 16, 17] (fun w' => Below w.heap.size w w') (by kernel_rfl) (by kernel_rfl) (by intro c a d v w h; cases d <;> exact h) (below_drew _) ?_
      intro hne
      simp only [pick, List.map_cons, List.map_nil, List.getD_cons_zero, List.getD_cons_succ]
      refine wpMix_reads 10 _ (by kernel_rfl) ?_
      simp only [List.take_succ_cons, List.take_zero, List.drop_succ_cons, List.drop_zero]
      repeat (go_big_quiet_step (fail))
      refine wpQuiet_nil ?_
      refine wpMix_act rfl ?_ rfl
      go_wp2_with fail
      refine (ref_read_string_to _ (List.drop k bs) _ _ most _ (s, j, 0) (HB.out.below (below_drew _)) (by have h := List.length_drop (i := k) (l := bs); omega) (by omega) (fun h => by cases h) (by omega) (by omega) HMo.out HV.out).mono ?_
      rintro x w1 ⟨v, rfl, hO, hb⟩
      have O1 := Lib.hid (show OwnB w1 w.heap.size v s from hO)
      have B1 := Lib.hid (below_trans (below_drew _) hb)
      have c1 := cell_keep B1.out h1
      have g1 := (B1.out.frozen (block_lt_of_cell h1)).trans f1
      clear hO hb
      go_wp2_with fail
      refine ⟨⟨⟨_, B1.out⟩, rfl⟩, ?_⟩
      refine wpMix_reads 7 _ (by kernel_rfl) ?_
      simp only [List.take_succ_cons, List.take_zero, List.drop_succ_cons, List.drop_zero]
      repeat (go_big_quiet_step (fail))
      refine wpQuiet_nil ?_
      refine wpMix_nil ?_
      clear hne k0 k1
      go_wp2_with fail
      go_ret
      exact ⟨_, rfl, O1.out.but (c := q) ((But.refl q w1).setB 1 _) HQ.out.lt, q_moved HQ.out HJ.out _ (by omega) B1.out⟩
    · obtain ⟨a, rfl⟩ : ∃ a, ao = some a := by
        cases ao with
        | none => exact absurd (HQ.out.nil rfl) hck
        | some a => exact ⟨a, rfl⟩
      clear hb
      go_enter Try.func98, Try.ntmps98
      go_wp2_with fail
      refine wp_region_mixed [0, 1, 2, 3, 4, 5, 6, 7, 8, 9, 10, 11, 12, 13, 14, 15, 16, 17] (fun w' => Below w.heap.size w w') (by kernel_rfl) (by kernel_rfl) (by intro c a d v w h; cases d <;> exact h) (below_drew _) ?_
      intro hne
      simp only [pick, List.map_cons, List.map_nil, List.getD_cons_zero, List.getD_cons_succ]
      refine wpMix_reads 10 _ (by kernel_rfl) ?_
      simp only [List.take_succ_cons, List.take_zero, List.drop_succ_cons, List.drop_zero]
      repeat (go_big_quiet_step (fail))
      refine wpQuiet_nil ?_
      refine wpMix_act rfl ?_ rfl
      go_wp2_with fail
      refine (ref_read_string_to _ (List.drop 0 []) _ _ most _ (s, j, 0) (fun i hi => by simp at hi) (by have h := List.length_drop (i := 0) (l := ([] : List (BitVec 8))); omega) (by omega) (fun h => by cases h) (by omega) (by omega) HMo.out HV.out).mono ?_
      rintro x w1 ⟨v, rfl, hO, hb⟩
      have O1 := Lib.hid (show OwnB w1 w.heap.size v s from hO)
      have B1 := Lib.hid (below_trans (below_drew _) hb)
      have c1 := cell_keep B1.out h1
      have g1 := (B1.out.frozen (block_lt_of_cell h1)).trans f1
      clear hO hb
      go_wp2_with fail
      refine ⟨⟨⟨_, B1.out⟩, rfl⟩, ?_⟩
      refine wpMix_reads 7 _ (by kernel_rfl) ?_
      simp only [List.take_succ_cons, List.take_zero, List.drop_succ_cons, List.drop_zero]
      repeat (go_big_quiet_step (fail))
      refine wpQuiet_nil ?_
      refine wpMix_nil ?_
      clear hne k0 k1
      go_wp2_with fail
      go_ret
      exact ⟨_, rfl, O1.out.but (c := q) ((But.refl q w1).setB 1 _) HQ.out.lt, q_moved HQ.out HJ.out _ (by omega) B1.out⟩
  · have HV := Lib.hid hr
    have he0 : ¬ (bad' : Int) = 0 := by omega
    have he1 : ((bad' : Int) == 0) = false := by simp; omega
    clear hr
    rcases HR.out with ⟨hck, hz, hb⟩ | ⟨hck, g, off, rfl, hb⟩ | ⟨hck, rfl, rfl, hb⟩
    · have HB := Lib.hid hb
      have hz' : bs.length ≤ k := by omega
      clear hb hz
      subst hck
      go_enter Try.func98, Try.ntmps98
      go_wp2_with fail
      refine wp_region_mixed [0, 1, 2, 3, 4, 5, 6, 7, 8, 9, 10, 11, 12, 13, 14, 15, 16, 17] (fun w' => Below w.heap.size w w') (by kernel_rfl) (by kernel_rfl) (by intro c a d v w h; cases d <;> exact h) (below_drew _) ?_
      intro hne
      simp only [pick, List.map_cons, List.map_nil, List.getD_cons_zero, List.getD_cons_succ]
      refine wpMix_reads 10 _ (by kernel_rfl) ?_
      simp only [List.take_succ_cons, List.take_zero, List.drop_succ_cons, List.drop_zero]
      repeat (go_big_quiet_step (fail))
      refine wpQuiet_nil ?_
      refine wpMix_act rfl ?_ rfl
      go_wp2_with fail
      refine (ref_read_string_to _ (List.drop cap bs) _ _ most _ ([], j, bad') (HB.out.below (below_drew _)) (by have h := List.length_drop (i := cap) (l := bs); omega) (by omega) (fun h => by have := HQ.out.nil h; omega) (by omega) (by omega) HMo.out HV.out).mono ?_
      rintro x w1 ⟨v, rfl, hO, hb⟩
      have O1 := Lib.hid (show OwnB w1 w.heap.size v [] from hO)
      have B1 := Lib.hid (below_trans (below_drew _) hb)
      have c1 := cell_keep B1.out h2
      have g1 := (B1.out.frozen (block_lt_of_cell h2)).trans f2
      clear hO hb
      go_wp2_with fail
      refine ⟨⟨⟨_, B1.out⟩, rfl⟩, ?_⟩
      refine wpMix_reads 7 _ (by kernel_rfl) ?_
      simp only [List.take_succ_cons, List.take_zero, List.drop_succ_cons, List.drop_zero]
      repeat (go_big_quiet_step (fail))
      refine wpQuiet_nil ?_
      refine wpMix_nil ?_
      clear hne k0 k1
      go_wp2_with fail
      go_ret
      exact ⟨_, rfl, OwnB.nil _ _, q_stopped HQ.out _ bad' rfl B1.out⟩
    · have HB := Lib.hid hb
      clear hb
      go_enter Try.func98, Try.ntmps98
      go_wp2_with fail
      refine wp_region_mixed [0, 1, 2, 3, 4, 5, 6, 7, 8, 9, 10, 11, 12, 13, 14, 15, 16, 17] (fun w' => Below w.heap.size w w') (by kernel_rfl) (by kernel_rfl) (by intro c a d v w h; cases d <;> exact h) (below_drew _) ?_
      intro hne
      simp only [pick, List.map_cons, List.map_nil, List.getD_cons_zero, List.getD_cons_succ]
      refine wpMix_reads 10 _ (by kernel_rfl) ?_
      simp only [List.take_succ_cons, List.take_zero, List.drop_succ_cons, List.drop_zero]
      repeat (go_big_quiet_step (fail))
      refine wpQuiet_nil ?_
      refine wpMix_act rfl ?_ rfl
      go_wp2_with fail
      refine (ref_read_string_to _ (List.drop k bs) _ _ most _ ([], j, bad') (HB.out.below (below_drew _)) (by have h := List.length_drop (i := k) (l := bs); omega) (by omega) (fun h => by cases h) (by omega) (by omega) HMo.out HV.out).mono ?_
      rintro x w1 ⟨v, rfl, hO, hb⟩
      have O1 := Lib.hid (show OwnB w1 w.heap.size v [] from hO)
      have B1 := Lib.hid (below_trans (below_drew _) hb)
      have c1 := cell_keep B1.out h2
      have g1 := (B1.out.frozen (block_lt_of_cell h2)).trans f2
      clear hO hb
      go_wp2_with fail
      refine ⟨⟨⟨_, B1.out⟩, rfl⟩, ?_⟩
      refine wpMix_reads 7 _ (by kernel_rfl) ?_
      simp only [List.take_succ_cons, List.take_zero, List.drop_succ_cons, List.drop_zero]
      repeat (go_big_quiet_step (fail))
      refine wpQuiet_nil ?_
      refine wpMix_nil ?_
      clear hne k0 k1
      go_wp2_with fail
      go_ret
      exact ⟨_, rfl, OwnB.nil _ _, q_stopped HQ.out _ bad' rfl B1.out⟩
    · obtain ⟨a, rfl⟩ : ∃ a, ao = some a := by
        cases ao with
        | none => exact absurd (HQ.out.nil rfl) hck
        | some a => exact ⟨a, rfl⟩
      clear hb
      go_enter Try.func98, Try.ntmps98
      go_wp2_with fail
      refine wp_region_mixed [0, 1, 2, 3, 4, 5, 6, 7, 8, 9, 10, 11, 12, 13, 14, 15, 16, 17] (fun w' => Below w.heap.size w w') (by kernel_rfl) (by kernel_rfl) (by intro c a d v w h; cases d <;> exact h) (below_drew _) ?_
      intro hne
      simp only [pick, List.map_cons, List.map_nil, List.getD_cons_zero, List.getD_cons_succ]
      refine wpMix_reads 10 _ (by kernel_rfl) ?_
      simp only [List.take_succ_cons, List.take_zero, List.drop_succ_cons, List.drop_zero]
      repeat (go_big_quiet_step (fail))
      refine wpQuiet_nil ?_
      refine wpMix_act rfl ?_ rfl
      go_wp2_with fail
      refine (ref_read_string_to _ (List.drop 0 []) _ _ most _ ([], j, bad') (fun i hi => by simp at hi) (by have h := List.length_drop (i := 0) (l := ([] : List (BitVec 8))); omega) (by omega) (fun h => by cases h) (by omega) (by omega) HMo.out HV.out).mono ?_
      rintro x w1 ⟨v, rfl, hO, hb⟩
      have O1 := Lib.hid (show OwnB w1 w.heap.size v [] from hO)
      have B1 := Lib.hid (below_trans (below_drew _) hb)
      have c1 := cell_keep B1.out h2
      have g1 := (B1.out.frozen (block_lt_of_cell h2)).trans f2
      clear hO hb
      go_wp2_with fail
      refine ⟨⟨⟨_, B1.out⟩, rfl⟩, ?_⟩
      refine wpMix_reads 7 _ (by kernel_rfl) ?_
      simp only [List.take_succ_cons, List.take_zero, List.drop_succ_cons, List.drop_zero]
      repeat (go_big_quiet_step (fail))
      refine wpQuiet_nil ?_
      refine wpMix_nil ?_
      clear hne k0 k1
      go_wp2_with fail
      go_ret
      exact ⟨_, rfl, OwnB.nil _ _, q_stopped HQ.out _ bad' rfl B1.out⟩

theorem q_string (q : Nat) (ao : Option Addr) (cap : Nat) (bs : List (BitVec 8)) (k bad : Nat) (most : Int) (w : World) (hQ : QAt w q ao cap bs k bad) (hm : bs.length ≤ 140737488355328) (hmost : -9223372036854775808 ≤ most ∧ most ≤ 9223372036854775807) (s : List (BitVec 8)) (k' bad' : Nat) (H : StrH bs k bad most s k' bad') :
    Calls Try.prog 98 #[.pointer (some ⟨q, 0, none⟩), .int .i64 most] w fun x w' => ∃ v, x = .returned v ∧ OwnB w' w.heap.size v s ∧ QNow w w' q ao cap bs k' bad' := by
  rcases H with ⟨rfl, j, hr, rfl, rfl⟩ | ⟨rfl, rfl, hb', ⟨rfl, h⟩ | rfl⟩
  · exact q_string_go q ao cap bs k most w hQ hm hmost s j 0 hr _ _ (.inl ⟨rfl, rfl, rfl⟩)
  · obtain ⟨s, j, e, hr⟩ : ∃ s j e, rs (bs.drop k) most = (s, j, e) := ⟨_, _, _, rfl⟩
    rw [hr] at h
    simp only at h
    subst h
    obtain ⟨rfl, rfl⟩ := rs_err hr hb'
    exact q_string_go q ao cap bs k most w hQ hm hmost [] 0 e hr _ _ (.inr ⟨hb', rfl, rfl, rfl⟩)
  · exact (q_string_bad q ao cap bs k bad most w hQ hb').mono fun _ _ ⟨he, hw⟩ => ⟨_, he, OwnB.nil _ _, hw ▸ ⟨hQ, But.refl _ _⟩⟩
end Go.Proofs.Ytmkljmljbbijeaa

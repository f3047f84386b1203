/- The walk of flumelaw1's WireReader. -/
import Derived.Test.YtggbhakkgbfneaaWireOne
import Derived.Test.YtggbhakkgbfneaaWireApart
import Derived.Test.YtggbhakkgbfneaaOpenOps
namespace Go.Proofs.Ytggbhakkgbfneaa
open Go.RowKit

theorem place_alike (b : Nat) (bs : List (BitVec 8)) (k bad at' : Nat) (w : World) (hR : RdAt w b bs k bad) (h : (if bad = 0 then 0 else k) = at') :
    Calls Try.prog 35 #[.pointer (some ⟨b, 0, none⟩)] w fun e w' => e = .returned (.tuple #[.int .i64 at', .int .i64 bad]) ∧ ∃ n, w' = w.drewN n := by
  subst h
  refine (reader_err b bs k bad w hR).mono fun _ _ ⟨he, hw⟩ => ⟨?_, hw⟩
  rw [he]
  split <;> rfl
theorem place_alike' (q : Nat) (ao : Option Addr) (cap : Nat) (bs : List (BitVec 8)) (k bad at' : Nat) (w : World) (hQ : QAt w q ao cap bs k bad) (h : (if bad = 0 then 0 else k) = at') :
    Calls Try.prog 36 #[.pointer (some ⟨q, 0, none⟩)] w fun e w' => e = .returned (.tuple #[.int .i64 at', .int .i64 bad]) ∧ ∃ n, w' = w.drewN n := by
  subst h
  refine (q_place q ao cap bs k bad w hQ).mono fun _ _ ⟨he, hw⟩ => ⟨?_, hw⟩
  rw [he]
  split <;> rfl
theorem drewN_below {w w' : World} (h : ∃ n, w' = w.drewN n) : Below w.heap.size w w' := by
  obtain ⟨n, rfl⟩ := h
  exact below_drewN _ _

theorem left_alike (b : Nat) (bs : List (BitVec 8)) (k bad : Nat) (w : World) (hR : RdAt w b bs k bad) (hm : bs.length ≤ 140737488355328) :
    Calls Try.prog 38 #[.pointer (some ⟨b, 0, none⟩)] w fun e w' => e = .returned (.int .i64 ((bs.length : Int) - (k : Int))) ∧ Below w.heap.size w w' :=
  (reader_left b bs k bad w hR hm).mono fun _ _ ⟨he, hw⟩ => ⟨by rw [he, Int.ofNat_sub hR.le], drewN_below hw⟩
set_option maxRecDepth 100000 in
theorem new_reader_own (ao : Option Addr) (bs : List (BitVec 8)) (n ca : Nat) (w : World) (hb : BytesAt w ao bs) (hl : bs.length = n) (hn : ao = none → ca = 0) (hm : n ≤ 140737488355328) :
    Calls Try.prog 33 #[.slice ao n ca] w fun e w' => ∃ b, e = .returned (.pointer (some ⟨b, 0, none⟩)) ∧ w.heap.size ≤ b ∧ RdAt w' b bs 0 0 ∧ Below w.heap.size w w' ∧
      ∃ ao' c', w'.cell? ⟨b, 0, none⟩ = some (.slice ao' bs.length c') ∧ ∀ g off, ao' = some ⟨g, off, none⟩ → w.heap.size ≤ g ∧ g < b := by
  subst hl
  have HB := Lib.hid hb
  have HN := Lib.hid hn
  clear hb hn
  go_enter Try.func33, Try.ntmps33
  go_wp2_with (refine wpList_append_bytes (o := ⟨some 4, _, _, _, _, _⟩) rfl _ _ rfl w.heap.size _ [] rfl (OwnB.nil _ _) ao bs.length ca bs rfl rfl HB.out HN.out (by simp; omega) (Nat.le_refl _) ?_)
  intro v2 w2 hv2 hg2 hi2
  have H2 : Hid (Below w.heap.size w w2) := (OwnB.nil w w.heap.size).below hg2 (Nat.le_refl _) (Nat.le_refl _)
  have V2 : Hid (OwnB w2 w.heap.size v2 bs) := hv2
  clear hv2 hg2 hi2
  obtain ⟨ao3, cap, rfl, hnil, hlc, hcm, hbs, hsh⟩ := V2.out.shape
  have HB3 := Lib.hid (hbs.below (below_alloc w2 (.cells #[.slice ao3 bs.length cap, .int .i64 0, .int .i64 0] 65)))
  have HA : Hid (ao3 = none ∧ cap = 0 ∨ ∃ g, ao3 = some ⟨g, 0, none⟩ ∧ g ≠ w2.heap.size) := Lib.hid (by
    rcases hsh with rfl | ⟨g, rfl, _, hg, _⟩
    · exact .inl ⟨rfl, hnil rfl⟩
    · exact .inr ⟨g, rfl, by omega⟩)
  have HG := Lib.hid (show ∀ g off, ao3 = some ⟨g, off, none⟩ → w.heap.size ≤ g ∧ g < w2.heap.size from fun g off e => by
    rcases hsh with rfl | ⟨g', rfl, h1, hg, _⟩
    · cases e
    · injection e with e; injection e with e; subst e; exact ⟨h1, hg⟩)
  have HC := Lib.hid hcm
  clear hnil hcm hbs hsh
  go_wp2_with fail
  go_ret
  exact ⟨_, rfl, H2.out.size, ⟨⟨ao3, cap, cell_of_row _ _ 0 _ _ _ (heap_alloc_new w2 _), HB3.out, HA.out, hlc, by have := HC.out; unfold maxLen at this; omega⟩, cell_of_row _ _ 1 _ _ _ (heap_alloc_new w2 _), cell_of_row _ _ 2 _ _ _ (heap_alloc_new w2 _), frozen_of_row _ _ _ _ _ (heap_alloc_new w2 _), frozen_of_row _ _ _ _ _ (heap_alloc_new w2 _), by omega⟩, below_trans H2.out (below_alloc _ _), ao3, cap, cell_of_row _ _ 0 _ _ _ (heap_alloc_new w2 _), HG.out⟩

set_option maxRecDepth 100000 in
/-- Behind NewReader, the document's reader, Back, and the box of what is kept. -/
theorem duo_new {w w2 w3 w5 : World} {b gl : Nat} {a : Option Addr} {bs : List (BitVec 8)} {ca : Nat} (ha : BytesAt w a bs) (na : a = none → ca = 0) (la : bs.length ≤ ca) (lb : ca ≤ 140737488351232)
    (h2 : Below w.heap.size w w2) (hb : w2.heap.size ≤ b) (hR : RdAt w3 b bs 0 0) (h3 : Below w2.heap.size w2 w3) (hf : ∃ ao' c', w3.cell? ⟨b, 0, none⟩ = some (.slice ao' bs.length c') ∧ ∀ g off, ao' = some ⟨g, off, none⟩ → w2.heap.size ≤ g ∧ g < b)
    (hgl : w.heap.size ≤ gl) (hgl2 : gl < w2.heap.size) (h5 : But gl (w3.alloc (.cells #[.slice a bs.length ca, .int .i64 0, .int .i64 0] 56)) w5) :
    Duo (w5.alloc (.cells #[.slice none 0 0, .int .i64 0] 43 (0, 0))) b w3.heap.size a ca bs w5.heap.size w5.heap.size 0 0 0 0 (.slice none 0 0) 0 [] ∧ Below w.heap.size w (w5.alloc (.cells #[.slice none 0 0, .int .i64 0] 43 (0, 0))) := by
  have hb3 : b < w3.heap.size := hR.lt
  have hA3 : (w3.alloc (.cells #[.slice a bs.length ca, .int .i64 0, .int .i64 0] 56)).heap.size = w3.heap.size + 1 := by
    show (w3.heap.push _).size = _
    rw [Array.size_push]
  have hs5 : w3.heap.size + 1 ≤ w5.heap.size := by have := h5.size; omega
  have b3 : Below w3.heap.size w3 (w3.alloc (.cells #[.slice a bs.length ca, .int .i64 0, .int .i64 0] 56)) := below_alloc _ _
  have b6 : Below w5.heap.size w5 (w5.alloc (.cells #[.slice none 0 0, .int .i64 0] 43 (0, 0))) := below_alloc _ _
  have blk : ∀ p, p < w3.heap.size → p ≠ gl → (w5.alloc (.cells #[.slice none 0 0, .int .i64 0] 43 (0, 0))).heap[p]? = w3.heap[p]? := fun p hp hne =>
    (b6.block p (by omega)).trans ((h5.block p (by omega) hne).trans (b3.block p hp))
  have hw3 : Below w.heap.size w w3 := below_trans h2 h3
  have hw : Below w.heap.size w (w5.alloc (.cells #[.slice none 0 0, .int .i64 0] 43 (0, 0))) :=
    ⟨b6.os.trans (h5.os.trans (b3.os.trans hw3.os)), b6.tape.trans (h5.tape.trans (b3.tape.trans hw3.tape)), b6.output.trans (h5.output.trans (b3.output.trans hw3.output)),
      by have := hw3.size; have := b6.size; omega, fun p hp => (blk p (by have := hw3.size; omega) (by omega)).trans (hw3.block p hp)⟩
  obtain ⟨ao', c', hc0, hg⟩ := hf
  have hq : ∀ j v, (w3.alloc (.cells #[.slice a bs.length ca, .int .i64 0, .int .i64 0] 56)).cell? ⟨w3.heap.size, j, none⟩ = some v → (w5.alloc (.cells #[.slice none 0 0, .int .i64 0] 43 (0, 0))).cell? ⟨w3.heap.size, j, none⟩ = some v := fun j v h =>
    cell_keep b6 (h5.cell h (by simp only; have := h3.size; omega))
  have hqf : ∀ j, (w5.alloc (.cells #[.slice none 0 0, .int .i64 0] 43 (0, 0))).frozen? ⟨w3.heap.size, j, none⟩ = false := fun j =>
    (b6.frozen (p := ⟨w3.heap.size, j, none⟩) (by simp only; omega)).trans ((h5.frozen (a := ⟨w3.heap.size, j, none⟩) (by simp only; omega) (by simp only; have := h3.size; omega)).trans (frozen_of_row _ _ j _ _ (heap_alloc_new w3 _)))
  have hbytes : ∀ g off, a = some ⟨g, off, none⟩ → bs ≠ [] → g < w.heap.size := fun g off e hne => by
    obtain ⟨g', off', e', hc⟩ := ha 0 (List.length_pos_iff.2 hne)
    rw [e] at e'; injection e' with e'; injection e' with e1; subst e1
    exact block_lt_of_cell hc
  have cb : (w5.alloc (.cells #[.slice none 0 0, .int .i64 0] 43 (0, 0))).cell? ⟨b, 0, none⟩ = w3.cell? ⟨b, 0, none⟩ := World.cell?_of_block (a := ⟨b, 0, none⟩) (blk b hb3 (by omega))
  have fg : ∀ ao2 c2, w3.cell? ⟨b, 0, none⟩ = some (.slice ao2 bs.length c2) → ∀ g off, ao2 = some ⟨g, off, none⟩ → w2.heap.size ≤ g ∧ g < b := fun ao2 c2 h g off e => by
    have := Option.some.inj (hc0.symm.trans h)
    injection this with e1 _ _
    exact hg g off (e1.trans e)
  refine ⟨⟨hR.congr (blk b hb3 (by omega)) (fun ao2 c2 h g off e _ => blk g (by have := fg ao2 c2 h g off e; omega) (by have := fg ao2 c2 h g off e; omega)), fun ao2 c2 h g off e _ => ?_,
    ⟨hq 0 _ (cell_of_row _ _ 0 _ _ _ (heap_alloc_new w3 _)), hq 1 _ (cell_of_row _ _ 1 _ _ _ (heap_alloc_new w3 _)), hq 2 _ (cell_of_row _ _ 2 _ _ _ (heap_alloc_new w3 _)), hqf 1, hqf 2, by omega, ha.below hw, na, la, by omega, fun g off e hne => ?_⟩,
    fun g off e hne => ?_, kept_new w5, short_nil, by omega, by omega, by omega, by have := b6.size; exact this⟩, hw⟩
  · have := fg ao2 c2 (cb.symm.trans h) g off e
    omega
  · have := hbytes g off e hne
    have := hw3.size
    omega
  · have := hbytes g off e hne
    have := h2.size
    omega

set_option maxHeartbeats 4000000 in
set_option maxRecDepth 100000 in
theorem wire_reader (a : Option Addr) (bs : List (BitVec 8)) (ca : Nat) (s : Option Addr) (L : List OpV) (cs : Nat) (w : World)
    (ha : BytesAt w a bs) (na : a = none → ca = 0) (la : bs.length ≤ ca) (lb : ca ≤ 140737488351232) (hL : OpsAt w s L) (lL : L.length ≤ 5864062014806) :
    Calls Try.prog 8 #[.slice a bs.length ca, .slice s L.length cs] w (TrueBelow w) := by
  have HA := Lib.hid ha
  have NA := Lib.hid na
  have HL := Lib.hid hL
  clear ha na hL
  go_enter Try.func8, Try.ntmps8
  go_wp2_with fail
  refine (wire_begun _).mono ?_
  rintro e w1 ⟨rfl, hb⟩
  have B1 := Lib.hid hb
  clear hb
  go_wp2_with fail
  refine (lent a bs ca _ (HA.out.below B1.out) NA.out (by omega)).mono ?_
  rintro x w2 ⟨gl, cl, rfl, hc2, hcm, hM⟩
  have M2 := Lib.hid hM
  have CM := Lib.hid hcm
  have HC2 := Lib.hid hc2
  clear hM hcm hc2
  go_wp2_with fail
  refine (new_reader_own (some ⟨gl, 0, none⟩) bs _ cl _ M2.out.front rfl (fun h => by cases h) (by omega)).mono ?_
  rintro x w3 ⟨b, rfl, hb, hR, hb3, hf⟩
  have M3 := Lib.hid ((M2.out.on hb3).on (below_alloc w3 (.cells #[.slice a bs.length ca, .int .i64 0, .int .i64 0] 56)))
  have HGL := Lib.hid (show gl < w2.heap.size from block_lt_of_cell (M2.out.bytes 0 (by simp)))
  have HGO := Lib.hid (show w.heap.size ≤ gl from Nat.le_trans B1.out.size M2.out.own)
  have DN := Lib.hid (fun w5 h5 => duo_new (w5 := w5) HA.out NA.out la lb (below_trans B1.out M2.out.below) hb hR hb3 hf HGO.out HGL.out h5)
  have HBW := Lib.hid (show w.heap.size ≤ b from Nat.le_trans (below_trans B1.out M2.out.below).size hb)
  have HQW := Lib.hid (show w.heap.size ≤ w3.heap.size from (below_trans (below_trans B1.out M2.out.below) hb3).size)
  clear hb hR hb3 hf
  go_wp2_with fail
  refine (back_but w1 gl cl a bs ca _ M3.out HC2.out CM.out (fun w' hw' => (HA.out.below B1.out).but M3.out.below hw' M3.out.own)).mono ?_
  rintro x w5 ⟨rfl, h5⟩
  obtain ⟨hD, hW⟩ := DN.out w5 h5
  have D6 := Lib.hid hD
  have W6 := Lib.hid hW
  clear h5 hD hW DN
  go_wp2_with fail
  generalize w5.alloc (.cells #[.slice none 0 0, .int .i64 0] 43 (0, 0)) = w6 at D6 W6 ⊢
  go_loopw [9, 10, 11, 12, 13, 14] (fun i _ _ _ _ _ wr => ∃ (t k bad : Nat) (lv : Value) (z : Nat) (xs : List Value), t ≤ L.length ∧ i = .int .i64 t ∧ Duo wr b w3.heap.size a ca bs w5.heap.size w5.heap.size k bad k bad lv z xs ∧ Touch b w3.heap.size w5.heap.size w6 wr) (fun i _ _ _ _ _ _ => L.length - (intOf i).toNat)
  case atStart => exact ⟨0, 0, 0, _, 0, [], by omega, rfl, D6.out, ⟨rfl, rfl, rfl, Nat.le_refl _, fun _ _ _ _ => rfl⟩⟩
  case round =>
    obtain ⟨t, k, bad, lv, z, xs, ht, rfl, hD, hT⟩ := hrel
    have HD := Lib.hid hD
    have HT := Lib.hid hT
    clear hD hT
    have HW := Lib.hid (show Below w.heap.size w wr from ⟨HT.out.os.trans W6.out.os, HT.out.tape.trans W6.out.tape, HT.out.output.trans W6.out.output, Nat.le_trans W6.out.size HT.out.size, fun p hp => (HT.out.block p (by have := HBW.out; have := HD.out.bl; omega) (by have := HBW.out; omega) (by have := HQW.out; omega)).trans (W6.out.block p hp)⟩)
    by_cases hlt : t < L.length
    · obtain ⟨o, ho⟩ : ∃ o, L[t]? = some o := ⟨_, List.getElem?_eq_getElem hlt⟩
      obtain ⟨hz, bl, ol, rfl, hc0, hc1, hc2⟩ := (HL.out.below HW.out) t o ho
      have HZ := Lib.hid hz
      clear ho hz
      go_wp2_with fail
      refine (one_any wr b w3.heap.size a ca bs w5.heap.size w5.heap.size k bad lv z xs HD.out (by omega) o.most o.size o.kind HZ.out).mono ?_
      rintro e w7 ⟨rfl, k', bad', lv', z', xs', hD, hT⟩
      have D7 := Lib.hid hD
      have T7 := Lib.hid (HT.out.trans hT)
      obtain ⟨at', hat⟩ : ∃ at' : Nat, (if bad' = 0 then 0 else k') = at' := ⟨_, rfl⟩
      have HAT := Lib.hid hat
      clear hD hT hat hc0 hc1 hc2
      go_wp2_with fail
      refine (place_alike b bs k' bad' at' _ D7.out.rd HAT.out).mono ?_
      rintro e w8 ⟨rfl, hw8⟩
      have hb8 := drewN_below hw8
      have D8 := Lib.hid (D7.out.on hb8)
      have T8 := Lib.hid (T7.out.trans (touch_below (hb8.mono D7.out.size)))
      clear hw8 hb8
      go_wp2_with fail
      refine (place_alike' w3.heap.size a ca bs k' bad' at' _ D8.out.qd HAT.out).mono ?_
      rintro e w9 ⟨rfl, hw9⟩
      have hb9 := drewN_below hw9
      have D9 := Lib.hid (D8.out.on hb9)
      have T9 := Lib.hid (T8.out.trans (touch_below (hb9.mono D8.out.size)))
      clear hw9 hb9
      have kq := cell_regrown D9.out.qd.at1
      have hkl := D9.out.rd.le
      go_wp2_with fail
      refine wp_region_quiet_below (by kernel_rfl) (by kernel_rfl) ?_
      repeat (go_big_quiet_step (first
        | (go_at_call 37; exact same_quiet (reader_at b bs k' bad' _ (D9.out.rd.on (below_regrown _ _ _))))
        | (go_at_call 38; exact Calls.regrown_of (left_alike b bs k' bad' _ (D9.out.rd.on (below_regrown _ _ _)) (by omega)))))
      refine wpQuiet_nil ?_
      intro w10 hw10
      obtain ⟨⟨nq, osq⟩, hw10'⟩ := hw10
      have hb10 : Below w9.heap.size w9 w10 := by rw [hw10']; exact below_regrown _ _ _
      have D10 := Lib.hid (D9.out.on hb10)
      have T10 := Lib.hid (T9.out.trans (touch_below (hb10.mono D9.out.size)))
      clear hw10' kq hb10 hkl
      go_wp2_with fail
      go_roundw
      case rel => exact ⟨t + 1, k', bad', lv', z', xs', by omega, by go_num, D10.out, T10.out⟩
      case measure => simp [intOf]; omega
    · have hge : (L.length : Int) ≤ (t : Int) := by omega
      go_wp2_with fail
      refine (apart_any HD.out.kept HD.out.short HD.out.size).mono ?_
      rintro e w7 ⟨rfl, hb7⟩
      have B7 := Lib.hid (HW.out.trans (hb7.mono (by have := HBW.out; have := HD.out.bl; omega)))
      clear hb7
      go_wp2_with fail
      go_ret
      exact ⟨rfl, B7.out⟩
end Go.Proofs.Ytggbhakkgbfneaa

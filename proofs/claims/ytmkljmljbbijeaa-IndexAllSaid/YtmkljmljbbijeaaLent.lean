/- The walks of flumelaw1's Lent and Back: bytes in memory of their own with a mark behind them; they are as they were, and are written over. -/
import Derived.Test.YtmkljmljbbijeaaBytes
import Derived.BigQuiet
import Derived.Deep.DeepCutAuto
namespace Go.Proofs.Ytmkljmljbbijeaa
open Go.RowKit

/-- Bytes of the call's own in block g, from its head; they may be written. -/
structure Mine (w wr : World) (g : Nat) (bs : List (BitVec 8)) : Prop where
  below : Below w.heap.size w wr
  own : w.heap.size ≤ g
  there : wr.there g 0 bs.length
  bytes : ∀ i, i < bs.length → wr.cell? ⟨g, i, none⟩ = some (.int .u8 (bv (at8 bs i)))
theorem Mine.on {w wr w' : World} {g : Nat} {bs : List (BitVec 8)} (h : Mine w wr g bs) (hb : Below wr.heap.size wr w') : Mine w w' g bs :=
  ⟨below_trans h.below hb, h.own, there_keep hb h.there, fun i hi => cell_keep hb (h.bytes i hi)⟩
theorem Mine.at {w wr : World} {g : Nat} {bs : List (BitVec 8)} (h : Mine w wr g bs) : BytesAt wr (some ⟨g, 0, none⟩) bs := fun i hi => ⟨g, 0, rfl, by rw [Nat.zero_add]; exact h.bytes i hi⟩
theorem Mine.base {w0 w wr : World} {g : Nat} {bs : List (BitVec 8)} (h : Mine w wr g bs) (hb : Below w0.heap.size w0 w) : Mine w0 wr g bs :=
  ⟨below_trans hb h.below, by have := hb.size; have := h.own; omega, h.there, h.bytes⟩
theorem mine_of {w wr : World} {base g cap : Nat} {bs : List (BitVec 8)} (h : OwnB wr base (.slice (some ⟨g, 0, none⟩) bs.length cap) bs) (hb : Below w.heap.size w wr) (hw : w.heap.size ≤ base) : Mine w wr g bs := by
  obtain ⟨ao, cap', hv, _, hlc, _, hbs, hsh⟩ := h.shape
  injection hv with e1 _ e2
  subst e1 e2
  rcases hsh with e | ⟨g', e, hg, _, hth⟩
  · cases e
  · injection e with e; injection e with e; subst e
    exact ⟨hb, by omega, fun j hj => hth j (by omega), fun i hi => by
      obtain ⟨b, off, e, hc⟩ := hbs i hi
      injection e with e; injection e with e1 e2; subst e1 e2
      rwa [Nat.zero_add] at hc⟩

/-- What Lent hands back. -/
def LentB (w : World) (bs : List (BitVec 8)) (e : Ending) (w' : World) : Prop :=
  ∃ g cap, e = .returned (.slice (some ⟨g, 0, none⟩) bs.length cap) ∧ bs.length + 2 ≤ cap ∧ cap ≤ maxLen ∧ Mine w w' g (bs ++ [171#8, 172#8])

set_option maxRecDepth 100000 in
theorem lent (ao : Option Addr) (bs : List (BitVec 8)) (ca : Nat) (w : World) (hb : BytesAt w ao bs) (hn : ao = none → ca = 0) (hm : bs.length ≤ 140737488351232) :
    Calls Try.prog 31 #[.slice ao bs.length ca] w (LentB w bs) := by
  have HB := Lib.hid hb
  have HN := Lib.hid hn
  clear hb hn
  go_enter Try.func31, Try.ntmps31
  go_wp2_with (refine wpList_append_bytes (o := ⟨some 5, _, _, _, _, _⟩) rfl _ _ rfl w.heap.size _ [] rfl (OwnB.nil _ _) ao bs.length ca bs rfl rfl HB.out HN.out (by simp; omega) (Nat.le_refl _) ?_)
  intro v2 w2 hv2 hg2 hi2
  clear hi2
  have H2 : Hid (Below w.heap.size w w2) := (OwnB.nil w w.heap.size).below hg2 (Nat.le_refl _) (Nat.le_refl _)
  have V2 : Hid (OwnB w2 w.heap.size v2 bs) := hv2
  clear hv2 hg2
  have V3 := Lib.hid (V2.out.keep (below_alloc w2 (.cells (bvals [171#8, 172#8]).toArray 5 (0, 0))))
  have HM := Lib.hid (bytes_new w2 [171#8, 172#8] 5 (0, 0))
  have HS : Hid (w.heap.size ≤ (w2.alloc (.cells (bvals [171#8, 172#8]).toArray 5 (0, 0))).heap.size) := Nat.le_trans H2.out.size (below_alloc w2 _).size
  go_wp2_with (refine wpList_append_bytes (o := ⟨some 8, _, _, _, _, _⟩) rfl _ _ rfl w.heap.size _ bs rfl V3.out (some ⟨w2.heap.size, 0, none⟩) 2 2 [171#8, 172#8] rfl rfl HM.out (fun h => nomatch h) (by simp; omega) HS.out ?_)
  intro v3 w3 hv3 hg3 hi3
  clear hi3
  have H3 : Hid (Below w.heap.size w w3) := (H2.out.trans ((below_alloc w2 _).mono H2.out.size)).trans (V3.out.below hg3 (Nat.le_refl _) HS.out)
  obtain ⟨ao3, cap, hv, hnil, hlc, hcm, hbs, hsh⟩ := hv3.shape
  have hlen : (bs ++ [171#8, 172#8]).length = bs.length + 2 := by simp
  obtain ⟨g, rfl, hg1, hg2, hth⟩ : ∃ g, ao3 = some ⟨g, 0, none⟩ ∧ w.heap.size ≤ g ∧ g < w3.heap.size ∧ w3.there g 0 cap := by
    rcases hsh with rfl | h
    · obtain ⟨b, off, e, _⟩ := hbs 0 (by omega); cases e
    · exact h
  have HG : Hid (Mine w w3 g (bs ++ [171#8, 172#8])) := mine_of (hv ▸ hv3) H3.out (Nat.le_refl _)
  rw [hv]
  have hc2 : bs.length + 2 ≤ cap := by omega
  have HCM := Lib.hid hcm
  clear hv hnil hlc hcm hbs hsh hlen hg1 hg2 hth hv3 hg3 HM HS V3 V2 H2 H3
  go_wp2_with fail
  go_ret
  exact ⟨g, cap, rfl, hc2, HCM.out, HG.out⟩
/-- The lent bytes behind k rounds of Back: from the k-th on as they were. -/
structure Rest (w0 wr : World) (g : Nat) (bs : List (BitVec 8)) (k : Nat) : Prop where
  below : Below w0.heap.size w0 wr
  own : w0.heap.size ≤ g
  there : wr.there g 0 (bs.length + 2)
  bytes : ∀ i, k ≤ i → i < bs.length → wr.cell? ⟨g, i, none⟩ = some (.int .u8 (bv (at8 bs i)))
theorem Rest.next {w0 wr : World} {g k : Nat} {bs : List (BitVec 8)} (h : Rest w0 wr g bs k) (v : Value) : Rest w0 (wr.setCell ⟨g, k, none⟩ v) g bs (k + 1) :=
  ⟨h.below.setCell h.own _, h.own, there_setCell h.there _ _, fun i hi hi2 => by
    rw [World.cell?_setCell_other _ _ _ _ (by intro h; injection h; omega)]; exact h.bytes i (by omega) hi2⟩
theorem Rest.drewN {w0 wr : World} {g k : Nat} {bs : List (BitVec 8)} (h : Rest w0 wr g bs k) (n : Nat) : Rest w0 (wr.drewN n) g bs k :=
  ⟨below_trans h.below (below_drewN _ _), h.own, h.there, h.bytes⟩
theorem at8_left {a b : List (BitVec 8)} {i : Nat} (h : i < a.length) : at8 (a ++ b) i = at8 a i := by
  simp [at8, List.getElem?_append_left h]
theorem at8_right (a b : List (BitVec 8)) (i : Nat) : at8 (a ++ b) (a.length + i) = at8 b i := by
  simp [at8, List.getElem?_append_right]

set_option maxRecDepth 100000 in
theorem back (w0 : World) (g cap : Nat) (ao : Option Addr) (bs : List (BitVec 8)) (cb : Nat) (w : World) (hm : Mine w0 w g (bs ++ [171#8, 172#8])) (hc : bs.length + 2 ≤ cap) (hcm : cap ≤ maxLen) (hb : BytesAt w0 ao bs) :
    Calls Try.prog 34 #[.slice (some ⟨g, 0, none⟩) bs.length cap, .slice ao bs.length cb] w fun e w' => e = .returned (.bool true) ∧ Below w0.heap.size w0 w' := by
  have HB := Lib.hid hb
  have hl2 : (bs ++ [171#8, 172#8]).length = bs.length + 2 := by simp
  have c1 : w.cell? ⟨g, bs.length, none⟩ = some (.int .u8 171) := by
    have h := hm.bytes bs.length (by omega)
    rw [show at8 (bs ++ [171#8, 172#8]) bs.length = 171#8 from at8_right bs _ 0] at h
    exact h
  have c2 : w.cell? ⟨g, bs.length + 1, none⟩ = some (.int .u8 172) := by
    have h := hm.bytes (bs.length + 1) (by omega)
    rw [show at8 (bs ++ [171#8, 172#8]) (bs.length + 1) = 172#8 from at8_right bs _ 1] at h
    exact h
  have HR : Hid (Rest w0 w g bs 0) := ⟨hm.below, hm.own, hl2 ▸ hm.there, fun i _ hi => by rw [hm.bytes i (by omega), at8_left hi]⟩
  unfold maxLen at hcm
  clear hb hm hl2
  go_enter Try.func34, Try.ntmps34
  go_wp2_with fail
  clear c1 c2
  go_loopw [5, 6] (fun o i wr => ∃ k : Nat, k ≤ bs.length ∧ i = .int .i64 k ∧ o = .bool true ∧ Rest w0 wr g bs k) (fun _ i _ => bs.length - (intOf i).toNat)
  case atStart => exact ⟨0, by omega, rfl, rfl, HR.out⟩
  case round =>
    obtain ⟨k, hk, rfl, rfl, hR⟩ := hrel
    have HK := Lib.hid hR
    clear hR
    by_cases hlt : k < bs.length
    · obtain ⟨b, off, rfl, hcb⟩ := (HB.out.below HK.out.below) k hlt
      have hcg := HK.out.bytes k (Nat.le_refl _) hlt
      have hfz := (HK.out.there k (by omega)).2
      rw [Nat.zero_add] at hfz
      go_wp2_with fail
      go_quiet (fail)
      go_wp2_with fail
      go_roundw
      case rel => exact ⟨k + 1, by omega, by go_num, rfl, (HK.out.drewN nq).next _⟩
      case measure => simp [intOf]; omega
    · have hge : (bs.length : Int) ≤ (k : Int) := by omega
      go_wp2_with fail
      go_ret
      exact ⟨rfl, HK.out.below⟩

end Go.Proofs.Ytmkljmljbbijeaa

/- The walk of flumelaw9.IndexAll. -/
import Derived.Test.YtmkljmljbbijeaaIdxOps
namespace Go.Proofs.Ytmkljmljbbijeaa
open Go.RowKit

set_option maxHeartbeats 8000000 in
set_option maxRecDepth 100000 in
theorem idx_all (step : Int) (a : Option Addr) (L : List IOpV) (ca : Nat) (w : World) (hL : IOpsAt w a L) (lL : L.length ≤ 5864062014806) :
    Calls Try.prog 9 #[.int .i64 step, .slice a L.length ca] w (TrueBelow w) := by
  have HL := Lib.hid hL
  clear hL
  go_enter Try.func9, Try.ntmps9
  go_wp2_with fail
  refine (idx_begun _).mono ?_
  rintro e w1 ⟨rfl, hb⟩
  have B1 := Lib.hid hb
  clear hb
  by_cases hst : 1 ≤ step ∧ step ≤ 1048576
  · have ST := Lib.hid hst
    clear hst
    go_wp2_with fail
    refine (idx_new_ok step w1 ST.out.1 ST.out.2).mono ?_
    rintro e w2 ⟨rfl, hat, hb2⟩
    have X2 := Lib.hid hat
    have B2 := Lib.hid hb2
    clear hat hb2
    go_wp2_with fail
    refine (ref_new_ok step w2 ST.out.1 ST.out.2).mono ?_
    rintro e w3 ⟨rfl, hat, hb3⟩
    have P3 := Lib.hid (show PairR w1 w1.heap.size w1.heap.size w2.heap.size (idx0 step) none 0 0 (idx0 step) none 0 0 w3 from ⟨X2.out.keep hb3, hat.base B2.out.size, fun j hj => (by cases hj), below_trans B2.out hb3⟩)
    have K0 := Lib.hid (idx0_ok ST.out.1 ST.out.2)
    have Z1 := Lib.hid B1.out.size
    obtain ⟨xb0, hx0⟩ : ∃ xb0, w1.heap.size = xb0 := ⟨_, rfl⟩
    obtain ⟨yb0, hy0⟩ : ∃ yb0, w2.heap.size = yb0 := ⟨_, rfl⟩
    rw [hy0] at P3
    rw [hx0, hy0]
    have P4 := Lib.hid (show PairR w1 w1.heap.size xb0 yb0 (idx0 step) none 0 0 (idx0 step) none 0 0 w3 from hx0 ▸ P3.out)
    clear hat hb3 hx0 hy0 X2 B2 P3
    go_wp2_with fail
    go_loopw [5, 7, 9] (fun s5 s7 i wr => ∃ (k xb nx cx yb ny cy : Nat) (X : IdxV) (ax ay : Option Addr), k ≤ L.length ∧ k ≤ 300 ∧ s5 = .pointer (some ⟨xb, 0, none⟩) ∧ s7 = .pointer (some ⟨yb, 0, none⟩) ∧ i = .int .i64 k ∧ Hid (IdxOk X) ∧ Hid (PairR w1 w1.heap.size xb yb X ax nx cx X ay ny cy wr)) (fun _ _ i _ => L.length - (intOf i).toNat)
    case atStart => exact ⟨0, _, 0, 0, _, 0, 0, _, none, none, by omega, by omega, rfl, rfl, rfl, K0, P4⟩
    case round =>
      clear P4 K0
      obtain ⟨k, xb, nx, cx, yb, ny, cy, X, ax, ay, hk, hk3, rfl, rfl, rfl, OK, P⟩ := hrel
      have LW := Lib.hid (below_trans B1.out (P.out.low.mono (Nat.le_refl _)))
      by_cases hlt : k < L.length
      · by_cases h3 : k < 300
        · obtain ⟨O, hO⟩ : ∃ O, nthIO L k = O := ⟨_, rfl⟩
          obtain ⟨hok, b, off, rfl, hc⟩ := (HL.out.below LW.out) k hlt
          rw [hO] at hok hc
          obtain ⟨kd, lsn, fo⟩ := O
          obtain ⟨c0, c1, c2⟩ := hc
          dsimp only at c0 c1 c2
          have RK := Lib.hid hok
          have bO := below_alloc wr (.cells #[.int .i64 kd, .int .i64 lsn, .int .i64 fo] 79)
          have nO := heap_alloc_new wr (.cells #[.int .i64 kd, .int .i64 lsn, .int .i64 fo] 79)
          obtain ⟨w5, hw5⟩ : ∃ w5, wr.alloc (.cells #[.int .i64 kd, .int .i64 lsn, .int .i64 fo] 79) = w5 := ⟨_, rfl⟩
          rw [hw5] at bO nO
          have P5 := Lib.hid (P.out.on bO)
          have N5 := Lib.hid nO
          have o0 := cell_of_row _ _ 0 _ _ _ nO
          clear bO nO hok hO
          go_upto_block 2 with (fail)
          go_cut [5, 7, 11] (fun s5 s7 s11 wc => ∃ (xb nx cx yb ny cy : Nat) (X : IdxV) (ax ay : Option Addr), s5 = .pointer (some ⟨xb, 0, none⟩) ∧ s7 = .pointer (some ⟨yb, 0, none⟩) ∧ s11 = .bool true ∧ Hid (IdxOk X) ∧ Hid (PairR w1 w1.heap.size xb yb X ax nx cx X ay ny cy wc))
          case first =>
            by_cases k1 : kd = 1
            · subst k1
              go_upto_if 62 with (fail)
              refine all_add w1.heap.size wr.heap.size xb nx cx yb ny cy X ax ay 1 lsn fo w1 w5 _ _ _ _ _ _ _ _ _ _ _ _ _ _ _ _ _ _ _ _ _ _ _ _ _ _ _ _ _ _ _ _ _ _ _ _ _ _ _ _ _ _ _ _ _ _ _ _ _ _ _ _ _ _ _ _ _ _ _ _ _ _ _ _ _ _ _ _ _ _ _ _ _ _ _ _ _ _ _ _ _ _ _ _ _ _ _ _ _ _ _ _ _ _ _ _ _ _ _ _ _ _ _ _ _ _ _ _ _ _ _ _ _ _ _ _ _ _ _ _ _ _ _ _ _ _ _ _ _ _ _ _ _ _ _ _ _ _ _ _ _ _ _ _ _ _ _ _ _ _ _ _ _ _ _ _ _ _ _ _ _ _ _ _ _ _ _ _ _ _ _ _ _ _ _ _ _ _ _ _ _ _ _ _ _ _ _ _ _ _ _ _ _ _ _ _ _ _ _ _ _ _ _ _ _ _ (by intro c a d v w h; cases d <;> exact h) OK P5 N5 RK.out.lsn.2 ?_
              intro wd X' ax' nx' cx' ay' ny' cy' x64 x65 x66 x67 x68 x69 x70 x71 x72 x73 x74 x75 x76 hk' hp'
              go_wp2_with fail
              go_meet
              exact ⟨_, _, _, _, _, _, _, _, _, rfl, rfl, rfl, Lib.hid hk', Lib.hid hp'⟩
            · have t1 : (kd == 1) = false := by simp [k1]
              by_cases k2 : kd = 2
              · subst k2
                clear k1
                go_upto_if 77 with (fail)
                refine all_next w1.heap.size wr.heap.size xb nx cx yb ny cy X ax ay 2 lsn fo w1 w5 _ _ _ _ _ _ _ _ _ _ _ _ _ _ _ _ _ _ _ _ _ _ _ _ _ _ _ _ _ _ _ _ _ _ _ _ _ _ _ _ _ _ _ _ _ _ _ _ _ _ _ _ _ _ _ _ _ _ _ _ _ _ _ _ _ _ _ _ _ _ _ _ _ _ _ _ _ _ _ _ _ _ _ _ _ _ _ _ _ _ _ _ _ _ _ _ _ _ _ _ _ _ _ _ _ _ _ _ _ _ _ _ _ _ _ _ _ _ _ _ _ _ _ _ _ _ _ _ _ _ _ _ _ _ _ _ _ _ _ _ _ _ _ _ _ _ _ _ _ _ _ _ _ _ _ _ _ _ _ _ _ _ _ _ _ _ _ _ _ _ _ _ _ _ _ _ _ _ _ _ _ _ _ _ _ _ _ _ _ _ _ _ _ _ _ _ _ _ _ _ _ _ _ _ _ _ (by intro c a d v w h; cases d <;> exact h) OK P5 N5 RK.out.off ?_ ?_
                · intro x79 x80 x81 x82 x83 x84 x85 x86 x87 x88 x89 x90 x91 x92 x93 x94 x95 x96 x97
                  go_wp2_with fail
                  go_roundw
                  case rel => exact ⟨k + 1, _, _, _, _, _, _, _, _, _, by omega, by omega, rfl, rfl, by go_num, OK, P5⟩
                  case measure => simp [intOf]; omega
                · intro wd X' ax' nx' cx' ay' ny' cy' x12 x13 x14 x15 x79 x80 x81 x82 x83 x84 x85 x86 x87 x88 x89 x90 x91 x92 x93 x94 x95 x96 x97 x98 x99 x100 x101 x102 x103 x104 x105 x106 x107 x108 x109 x110 x111 x112 x113 x114 x115 x116 x117 x118 x119 x120 x121 x122 hk' hp'
                  go_wp2_with fail
                  go_meet
                  exact ⟨_, _, _, _, _, _, _, _, _, rfl, rfl, rfl, Lib.hid hk', Lib.hid hp'⟩
              · have t2 : (kd == 2) = false := by simp [k2]
                by_cases k3 : kd = 3
                · subst k3
                  clear k1 k2
                  go_upto_if 123 with (fail)
                  refine all_find w1.heap.size wr.heap.size xb nx cx yb ny cy X ax ay 3 lsn fo w1 w5 _ _ _ _ _ _ _ _ _ _ _ _ _ _ _ _ _ _ _ _ _ _ _ _ _ _ _ _ _ _ _ _ _ _ _ _ _ _ _ _ _ _ _ _ _ _ _ _ _ _ _ _ _ _ _ _ _ _ _ _ _ _ _ _ _ _ _ _ _ _ _ _ _ _ _ _ _ _ _ _ _ _ _ _ _ _ _ _ _ _ _ _ _ _ _ _ _ _ _ _ _ _ _ _ _ _ _ _ _ _ _ _ _ _ _ _ _ _ _ _ _ _ _ _ _ _ _ _ _ _ _ _ _ _ _ _ _ _ _ _ _ _ _ _ _ _ _ _ _ _ _ _ _ _ _ _ _ _ _ _ _ _ _ _ _ _ _ _ _ _ _ _ _ _ _ _ _ _ _ _ _ _ _ _ _ _ _ _ _ _ _ _ _ _ _ _ _ _ _ _ _ _ _ _ _ _ OK P5 N5 ?_
                  intro wd x16 x17 x18 x19 x125 x126 x127 x128 x129 x130 x131 x132 x133 x134 x135 x136 x137 x138 x139 x140 x141 x142 x143 x144 x145 x146 hp'
                  go_wp2_with fail
                  go_meet
                  exact ⟨_, _, _, _, _, _, _, _, _, rfl, rfl, rfl, OK, Lib.hid hp'⟩
                · have t3 : (kd == 3) = false := by simp [k3]
                  by_cases k4 : kd = 4
                  · subst k4
                    clear k1 k2 k3
                    go_upto_if 147 with (fail)
                    refine all_cut w1.heap.size wr.heap.size xb nx cx yb ny cy X ax ay 4 lsn fo w1 w5 _ _ _ _ _ _ _ _ _ _ _ _ _ _ _ _ _ _ _ _ _ _ _ _ _ _ _ _ _ _ _ _ _ _ _ _ _ _ _ _ _ _ _ _ _ _ _ _ _ _ _ _ _ _ _ _ _ _ _ _ _ _ _ _ _ _ _ _ _ _ _ _ _ _ _ _ _ _ _ _ _ _ _ _ _ _ _ _ _ _ _ _ _ _ _ _ _ _ _ _ _ _ _ _ _ _ _ _ _ _ _ _ _ _ _ _ _ _ _ _ _ _ _ _ _ _ _ _ _ _ _ _ _ _ _ _ _ _ _ _ _ _ _ _ _ _ _ _ _ _ _ _ _ _ _ _ _ _ _ _ _ _ _ _ _ _ _ _ _ _ _ _ _ _ _ _ _ _ _ _ _ _ _ _ _ _ _ _ _ _ _ _ _ _ _ _ _ _ _ _ _ _ _ _ _ _ (by intro c a d v w h; cases d <;> exact h) OK P5 N5 ?_
                    intro wd X' ax' nx' cx' ay' ny' cy' x149 x150 x151 x152 x153 x154 x155 x156 x157 hk' hp'
                    go_wp2_with fail
                    go_meet
                    exact ⟨_, _, _, _, _, _, _, _, _, rfl, rfl, rfl, Lib.hid hk', Lib.hid hp'⟩
                  · have t4 : (kd == 4) = false := by simp [k4]
                    by_cases k5 : kd = 5
                    · subst k5
                      clear k1 k2 k3 k4
                      go_upto_if 158 with (fail)
                      refine all_save w1.heap.size wr.heap.size xb nx cx yb ny cy X ax ay w1 w5 _ _ _ _ _ _ _ _ _ _ _ _ _ _ _ _ _ _ _ _ _ _ _ _ _ _ _ _ _ _ _ _ _ _ _ _ _ _ _ _ _ _ _ _ _ _ _ _ _ _ _ _ _ _ _ _ _ _ _ _ _ _ _ _ _ _ _ _ _ _ _ _ _ _ _ _ _ _ _ _ _ _ _ _ _ _ _ _ _ _ _ _ _ _ _ _ _ _ _ _ _ _ _ _ _ _ _ _ _ _ _ _ _ _ _ _ _ _ _ _ _ _ _ _ _ _ _ _ _ _ _ _ _ _ _ _ _ _ _ _ _ _ _ _ _ _ _ _ _ _ _ _ _ _ _ _ _ _ _ _ _ _ _ _ _ _ _ _ _ _ _ _ _ _ _ _ _ _ _ _ _ _ _ _ _ _ _ _ _ _ _ _ _ _ _ _ _ _ _ _ _ _ _ _ _ _ OK P5 ?_
                      intro wd X' xb' yb' ax' nx' cx' ay' ny' cy' x6 x8 x160 x161 x162 x163 x164 x165 x166 x167 x168 x169 x170 x171 x172 x173 x174 x175 x176 x177 x178 x179 x180 x181 x182 hk' hp'
                      go_wp2_with fail
                      go_meet
                      exact ⟨_, _, _, _, _, _, _, _, _, rfl, rfl, rfl, Lib.hid hk', Lib.hid hp'⟩
                    · have t5 : (kd == 5) = false := by simp [k5]
                      clear k1 k2 k3 k4 k5
                      go_wp2_with fail
                      go_meet
                      exact ⟨_, _, _, _, _, _, _, _, _, rfl, rfl, rfl, OK, P5⟩
          case rest =>
            clear c0 c1 c2 o0 P5 N5 OK P RK HL
            obtain ⟨xb2, nx2, cx2, yb2, ny2, cy2, X2, ax2, ay2, rfl, rfl, rfl, OK, P⟩ := hcut
            have LC := Lib.hid (below_trans B1.out (P.out.low.mono (Nat.le_refl _)))
            by_cases hm : (k : Int) % 16 = 0
            · go_wp2_with fail
              refine (idx_same w1.heap.size xb2 w1.heap.size yb2 nx2 cx2 ny2 cy2 X2 ax2 ay2 wc (Lib.hid P.out.x) (Lib.hid P.out.y) OK).mono ?_
              rintro e w6 ⟨rfl, hb6⟩
              have P6 := Lib.hid (P.out.on hb6)
              clear hb6
              go_wp2_with fail
              go_roundw
              case rel => exact ⟨k + 1, _, _, _, _, _, _, _, _, _, by omega, by omega, rfl, rfl, by go_num, OK, P6⟩
              case measure => simp [intOf]; omega
            · go_wp2_with fail
              go_roundw
              case rel => exact ⟨k + 1, _, _, _, _, _, _, _, _, _, by omega, by omega, rfl, rfl, by go_num, OK, P⟩
              case measure => simp [intOf]; omega
        · obtain rfl : k = 300 := by omega
          go_wp2_with fail
          refine (idx_same w1.heap.size xb w1.heap.size yb nx cx ny cy X ax ay wr (Lib.hid P.out.x) (Lib.hid P.out.y) OK).mono ?_
          rintro e w6 ⟨rfl, hb6⟩
          have B6 := Lib.hid (below_trans LW.out hb6)
          clear hb6
          go_wp2_with fail
          go_ret
          exact ⟨rfl, B6.out⟩
      · have hge : (L.length : Int) ≤ (k : Int) := by omega
        go_wp2_with fail
        refine (idx_same w1.heap.size xb w1.heap.size yb nx cx ny cy X ax ay wr (Lib.hid P.out.x) (Lib.hid P.out.y) OK).mono ?_
        rintro e w6 ⟨rfl, hb6⟩
        have B6 := Lib.hid (below_trans LW.out hb6)
        clear hb6
        go_wp2_with fail
        go_ret
        exact ⟨rfl, B6.out⟩
  · have hbad := Lib.hid hst
    clear hst
    go_wp2_with fail
    refine (idx_new_no step w1 hbad.out).mono ?_
    rintro e w2 ⟨rfl, rfl⟩
    go_wp2_with fail
    refine (ref_new_no step w2 hbad.out).mono ?_
    rintro e w3 ⟨rfl, rfl⟩
    go_wp2_with fail
    go_ret
    exact ⟨rfl, B1.out⟩
end Go.Proofs.Ytmkljmljbbijeaa

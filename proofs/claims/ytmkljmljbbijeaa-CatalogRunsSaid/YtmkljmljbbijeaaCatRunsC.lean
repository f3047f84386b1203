/- flumelaw10.CatalogRuns: a round's tail: what was written is read back. -/
import Derived.Test.YtmkljmljbbijeaaCatRunsB
namespace Go.Proofs.Ytmkljmljbbijeaa
open Go.RowKit

theorem RunE.keep {k cb : Nat} {w0 w w' : World} {g f : Int} {ao : Option Addr} {n ca : Nat} {S : List SegV} (h : RunE k cb w0 w g f ao n ca S) (hb : Below w.heap.size w w') : RunE k cb w0 w' g f ao n ca S :=
  ⟨h.run, h.at'.keep hb, below_trans h.low hb⟩
set_option maxHeartbeats 16000000 in
set_option maxRecDepth 100000 in
theorem runs_tail (k cb : Nat) (g f : Int) (ao : Option Addr) (n ca : Nat) (S : List SegV) (w0 w : World) (Q : Exit → Act → World → Prop)
    (u0 u1 u2 u3 u4 u6 u7 u8 u9 u10 u11 u12 u13 u14 u15 u16 u17 u18 u19 u20 u21 u22 u23 u24 u25 u26 u27 u28 u29 u30 u31 u32 u33 u34 u35 u36 u37 u38 u39 u40 u41 u42 u43 u44 u45 u46 u47 u48 u49 u50 u51 u52 u53 u54 u55 u56 u57 u58 u59 u60 u61 u62 u63 u64 u65 u66 u67 u68 u69 u70 u71 u72 u73 u74 u75 u76 u77 u78 u79 u80 u81 u82 u83 u84 u85 u86 u87 u88 u89 u90 u91 u92 u93 u94 u95 u96 u97 u98 u99 u100 u101 u102 u103 u104 u105 u106 u107 u108 u109 u110 u111 u112 u113 u114 u115 u116 u117 u118 u119 u120 u121 u122 u123 u124 u125 u126 u127 u128 u129 u130 u131 u132 u133 u134 u135 u136 u137 u138 u139 u140 u141 u142 u143 u144 u145 u146 u147 u148 u149 u150 u151 u152 u153 u154 u155 u156 u157 u158 u159 u160 u161 u162 u163 u164 u165 u166 u167 u168 u169 u170 u171 u172 u173 u174 u175 u176 u177 u178 u179 u180 u181 u182 u183 u184 u185 u186 u187 u188 u189 u190 u191 u192 u193 u194 u195 u196 u197 u198 u199 u200 u201 u202 u203 u204 u205 u206 u207 u208 u209 u210 u211 u212 u213 u214 u215 u216 u217 u218 u219 u220 u221 u222 u223 u224 u225 u226 u227 u228 u229 u230 u231 u232 u233 u234 u235 u236 u237 u238 u239 u240 u241 u242 u243 u244 u245 u246 u247 u248 u249 u250 u251 u252 u253 : Value)
    (HE : Hid (RunE k cb w0 w g f ao n ca S))
    (hQ : ∀ (wd : World) (x4 x16 x17 x18 x19 x227 x228 x229 x230 x231 x232 x233 x234 x235 x236 x237 x238 x239 x240 x241 x242 x243 x244 x245 x246 x247 x248 x249 x250 x251 x252 x253 : Value), RunE k cb w0 wd g f ao n ca S → Q .normal ⟨#[u0, u1, u2, u3, x4, .pointer (some ⟨cb, 0, none⟩), u6, u7, u8, u9, u10, u11, u12, u13, u14, u15, x16, x17, x18, x19, u20, u21, u22, u23, u24, u25, u26, u27, u28, u29, u30, u31, u32, u33, u34, u35, u36, u37, u38, u39, u40, u41, u42, u43, u44, u45, u46, u47, u48, u49, u50, u51, u52, u53, u54, u55, u56, u57, u58, u59, u60, u61, u62, u63, u64, u65, u66, u67, u68, u69, u70, u71, u72, u73, u74, u75, u76, u77, u78, u79, u80, u81, u82, u83, u84, u85, u86, u87, u88, u89, u90, u91, u92, u93, u94, u95, u96, u97, u98, u99, u100, u101, u102, u103, u104, u105, u106, u107, u108, u109, u110, u111, u112, u113, u114, u115, u116, u117, u118, u119, u120, u121, u122, u123, u124, u125, u126, u127, u128, u129, u130, u131, u132, u133, u134, u135, u136, u137, u138, u139, u140, u141, u142, u143, u144, u145, u146, u147, u148, u149, u150, u151, u152, u153, u154, u155, u156, u157, u158, u159, u160, u161, u162, u163, u164, u165, u166, u167, u168, u169, u170, u171, u172, u173, u174, u175, u176, u177, u178, u179, u180, u181, u182, u183, u184, u185, u186, u187, u188, u189, u190, u191, u192, u193, u194, u195, u196, u197, u198, u199, u200, u201, u202, u203, u204, u205, u206, u207, u208, u209, u210, u211, u212, u213, u214, u215, u216, u217, u218, u219, u220, u221, u222, u223, u224, u225, u226, x227, x228, x229, x230, x231, x232, x233, x234, x235, x236, x237, x238, x239, x240, x241, x242, x243, x244, x245, x246, x247, x248, x249, x250, x251, x252, x253], []⟩ wd) :
    (seqOf Try.f5 29).wp Try.prog Q ⟨#[u0, u1, u2, u3, u4, .pointer (some ⟨cb, 0, none⟩), u6, u7, u8, u9, u10, u11, u12, u13, u14, u15, u16, u17, u18, u19, u20, u21, u22, u23, u24, u25, u26, u27, u28, u29, u30, u31, u32, u33, u34, u35, u36, u37, u38, u39, u40, u41, u42, u43, u44, u45, u46, u47, u48, u49, u50, u51, u52, u53, u54, u55, u56, u57, u58, u59, u60, u61, u62, u63, u64, u65, u66, u67, u68, u69, u70, u71, u72, u73, u74, u75, u76, u77, u78, u79, u80, u81, u82, u83, u84, u85, u86, u87, u88, u89, u90, u91, u92, u93, u94, u95, u96, u97, u98, u99, u100, u101, u102, u103, u104, u105, u106, u107, u108, u109, u110, u111, u112, u113, u114, u115, u116, u117, u118, u119, u120, u121, u122, u123, u124, u125, u126, u127, u128, u129, u130, u131, u132, u133, u134, u135, u136, u137, u138, u139, u140, u141, u142, u143, u144, u145, u146, u147, u148, u149, u150, u151, u152, u153, u154, u155, u156, u157, u158, u159, u160, u161, u162, u163, u164, u165, u166, u167, u168, u169, u170, u171, u172, u173, u174, u175, u176, u177, u178, u179, u180, u181, u182, u183, u184, u185, u186, u187, u188, u189, u190, u191, u192, u193, u194, u195, u196, u197, u198, u199, u200, u201, u202, u203, u204, u205, u206, u207, u208, u209, u210, u211, u212, u213, u214, u215, u216, u217, u218, u219, u220, u221, u222, u223, u224, u225, u226, u227, u228, u229, u230, u231, u232, u233, u234, u235, u236, u237, u238, u239, u240, u241, u242, u243, u244, u245, u246, u247, u248, u249, u250, u251, u252, u253], []⟩ w := by
  have HQ := Lib.hid hQ
  have MM := Lib.hid HE.out.run.may
  have OK := Lib.hid HE.out.at'.there.ok
  have b0 := cell_of_row _ _ 0 _ _ _ HE.out.at'.box
  have b1 := cell_of_row _ _ 1 _ _ _ HE.out.at'.box
  have b2 := cell_of_row _ _ 2 _ _ _ HE.out.at'.box
  dsimp only at b0 b1 b2
  clear hQ
  conv => arg 2; whnf
  go_wp2_with fail
  refine (cat_write_ok g f ao n ca S w HE.out.at'.len HE.out.at'.there MM.out).mono ?_
  rintro x w1 ⟨v, rfl, hO, hb1⟩
  obtain ⟨ab, cb', rfl, hab, nab, lab, -, -⟩ := hO.slice
  have LB := Lib.hid (catB_len ⟨g, f, S⟩ MM.out.few)
  obtain ⟨B, hB⟩ : ∃ B, catB ⟨g, f, S⟩ = B := ⟨_, rfl⟩
  have hBR : catR B = (⟨g, f, S⟩, 0) := hB ▸ catR_back MM.out OK.out
  rw [hB] at hab lab LB ⊢
  have AB := Lib.hid hab
  have NAB := Lib.hid nab
  have LAB := Lib.hid lab
  have BR := Lib.hid hBR
  have E1 := Lib.hid (HE.out.keep hb1)
  clear hO hab nab lab hB hBR hb1 b0 b1 b2
  go_wp2_with fail
  refine (cat_read ab B _ cb' w1 AB.out rfl NAB.out LAB.out (by have := LB.out; omega) ⟨g, f, S⟩ 0 BR.out).mono ?_
  rintro x w2 ⟨v, rfl, hO, hb2⟩
  obtain ⟨ar, cr, hv, hA⟩ := hO.shown
  subst hv
  dsimp only at hA
  have bD := below_alloc w2 (.cells #[.int .i64 g, .int .i64 f, .slice ar S.length cr] 29)
  have nD := heap_alloc_new w2 (.cells #[.int .i64 g, .int .i64 f, .slice ar S.length cr] 29)
  obtain ⟨w3, hw3⟩ : ∃ w3, w2.alloc (.cells #[.int .i64 g, .int .i64 f, .slice ar S.length cr] 29) = w3 := ⟨_, rfl⟩
  rw [hw3] at bD nD
  have E3 := Lib.hid ((E1.out.keep hb2).keep bD)
  have A3 := Lib.hid (hA.below bD)
  have N3 := Lib.hid nD
  have b0 := cell_of_row _ _ 0 _ _ _ E3.out.at'.box
  have b1 := cell_of_row _ _ 1 _ _ _ E3.out.at'.box
  have b2 := cell_of_row _ _ 2 _ _ _ E3.out.at'.box
  dsimp only at b0 b1 b2
  clear hO hA bD nD hb2
  go_wp2_with fail
  refine (cat_may ⟨g, f, S⟩ _ w3 E3.out.at'.there true (by simp [MM.out])).mono ?_
  rintro x w4 ⟨rfl, hb4⟩
  have E4 := Lib.hid (E3.out.keep hb4)
  have N4 := Lib.hid ((hb4.block _ (heap_lt N3.out)).trans N3.out)
  have A4 := Lib.hid (A3.out.below hb4)
  clear hb4 b0 b1 b2
  have b0 := cell_of_row _ _ 0 _ _ _ E4.out.at'.box
  have b1 := cell_of_row _ _ 1 _ _ _ E4.out.at'.box
  have b2 := cell_of_row _ _ 2 _ _ _ E4.out.at'.box
  have c0 := cell_of_row _ _ 0 _ _ _ N4.out
  have c1 := cell_of_row _ _ 1 _ _ _ N4.out
  have c2 := cell_of_row _ _ 2 _ _ _ N4.out
  dsimp only at b0 b1 b2
  go_wp2_with fail
  refine (cat_eq g f g f ar ao _ n cr ca S S w4 rfl E4.out.at'.len A4.out E4.out.at'.there true (by simp)).mono ?_
  rintro x w5 ⟨rfl, hb5⟩
  have E5 := Lib.hid (E4.out.keep hb5)
  clear hb5 b0 b1 b2 c0 c1 c2
  go_wp2_with fail
  exact HQ.out _ _ _ _ _ _ _ _ _ _ _ _ _ _ _ _ _ _ _ _ _ _ _ _ _ _ _ _ _ _ _ _ _ E5.out
end Go.Proofs.Ytmkljmljbbijeaa

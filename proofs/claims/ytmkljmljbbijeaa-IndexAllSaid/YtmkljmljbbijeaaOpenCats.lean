/- Catalogs among the arguments, alone and in slices; what is asked of them. -/
import Derived.Test.YtmkljmljbbijeaaOpen
import Derived.Test.YtmkljmljbbijeaaFrame
import Derived.Test.YtmkljmljbbijeaaCatMay
import Derived.Deep.Strs
import Derived.Deep.SlicePairs
namespace Go.Proofs.Ytmkljmljbbijeaa
open Go.ChangeShapes Go.WideShapes Go.ChangeAt Go.RowKit Go.Deep

section
variable {H : Type} {enc : TypeId × Value → H}
theorem trod_five {P : Program} {w : World} {base : Nat} {spare : TypeId → Bool} {held : Bool} {t : TypeId} {f0 f1 f2 f3 f4 : Field} {fuel : Nat} {cs : List Value} {x : DataW H × List MemPlace} (ht : P.underlying t = some (.struct #[f0, f1, f2, f3, f4])) (h : DataW.trod enc P w base spare held fuel t cs = some x) :
    ∃ y0 y1 y2 y3 y4 n, x = (.agg [y0.1, y1.1, y2.1, y3.1, y4.1], y0.2 ++ (y1.2 ++ (y2.2 ++ (y3.2 ++ y4.2)))) ∧ cs.length = P.cellsOf t ∧ DataW.trod enc P w base spare held n f0.type ((cs.drop f0.offset).take (P.cellsOf f0.type)) = some y0 ∧
      DataW.trod enc P w base spare held n f1.type ((cs.drop f1.offset).take (P.cellsOf f1.type)) = some y1 ∧ DataW.trod enc P w base spare held n f2.type ((cs.drop f2.offset).take (P.cellsOf f2.type)) = some y2 ∧
      DataW.trod enc P w base spare held n f3.type ((cs.drop f3.offset).take (P.cellsOf f3.type)) = some y3 ∧ DataW.trod enc P w base spare held n f4.type ((cs.drop f4.offset).take (P.cellsOf f4.type)) = some y4 := by
  obtain ⟨xs, n, _, rfl, hl, hlen, hf⟩ := DataW.trod_struct ht h
  match xs, hlen with
  | [y0, y1, y2, y3, y4], _ => exact ⟨y0, y1, y2, y3, y4, n, by simp, hl, by simpa using hf 0 f0 rfl, by simpa using hf 1 f1 rfl, by simpa using hf 2 f2 rfl, by simpa using hf 3 f3 rfl, by simpa using hf 4 f4 rfl⟩
set_option maxRecDepth 100000 in
theorem cellsSeg : Try.prog.cellsOf 53 = 5 := by kernel_rfl
set_option maxRecDepth 100000 in
theorem bytesSeg : Try.prog.bytesOf 53 = 40 := by kernel_rfl
set_option maxRecDepth 100000 in
theorem cellsCat : Try.prog.cellsOf 29 = 3 := by kernel_rfl
set_option maxRecDepth 100000 in
theorem bytesCat : Try.prog.bytesOf 29 = 40 := by kernel_rfl
set_option maxRecDepth 100000 in
theorem cellsI64Cat : Try.prog.cellsOf 2 = 1 := by kernel_rfl
set_option maxRecDepth 100000 in
theorem cellsIntCat : Try.prog.cellsOf 3 = 1 := by kernel_rfl
set_option maxRecDepth 100000 in
theorem cellsU32Cat : Try.prog.cellsOf 23 = 1 := by kernel_rfl
set_option maxRecDepth 100000 in
theorem cellsSegsCat : Try.prog.cellsOf 27 = 1 := by kernel_rfl
instance : Inhabited SegV := ⟨segZ⟩
instance : Inhabited CatV := ⟨⟨0, 0, []⟩⟩
set_option maxRecDepth 100000 in
theorem read_seg_cells {W : World} {fuel : Nat} {cs : List Value} {d : DataW H} {p : List MemPlace} (h : DataW.trod enc Try.prog W 0 (fun _ => true) true fuel 53 cs = some (d, p)) :
    ∃ s : SegV, cs = [.int .i64 s.num, .int .i64 s.base, .int .u32 (bv s.seed), .int .i64 s.end_, .int .i64 s.size] ∧ SegOk s := by
  obtain ⟨y0, y1, y2, y3, y4, k, hxy, hlen, g0, g1, g2, g3, g4⟩ := trod_five Try.underlying53 h
  rw [cellsSeg] at hlen
  match cs, hlen with
  | [v0, v1, v2, v3, v4], _ =>
    simp [cellsI64Cat, cellsU32Cat, cellsIntCat] at g0 g1 g2 g3 g4
    obtain ⟨z0, hz0, _, hw0⟩ := DataW.trod_int Try.underlying2 g0
    obtain ⟨z1, hz1, _, hw1⟩ := DataW.trod_int Try.underlying2 g1
    obtain ⟨z2, hz2, _, hw2⟩ := DataW.trod_int Try.underlying23 g2
    obtain ⟨z3, hz3, _, hw3⟩ := DataW.trod_int Try.underlying2 g3
    obtain ⟨z4, hz4, _, hw4⟩ := DataW.trod_int Try.underlying3 g4
    injection hz0 with hz0; injection hz1 with hz1; injection hz2 with hz2; injection hz3 with hz3; injection hz4 with hz4
    subst hz0 hz1 hz2 hz3 hz4
    obtain ⟨s, rfl⟩ := u32_bv hw2
    exact ⟨⟨z0, z1, s, z3, z4⟩, rfl, i64_range hw0, i64_range hw1, i64_range hw3, i64_range hw4⟩
set_option maxRecDepth 100000 in
theorem read_segs {W : World} {fuel : Nat} {v : Value} {d : DataW H} {p : List MemPlace} (h : DataW.trod enc Try.prog W 0 (fun _ => true) true fuel 27 [v] = some (d, p)) (hr : Reach 27 d) :
    ∃ (ao : Option Addr) (L : List SegV) (cap : Nat), v = .slice ao L.length cap ∧ SegsAt W ao L ∧ (ao = none → cap = 0) ∧ L.length ≤ cap ∧ cap ≤ 3518437208783 := by
  rcases open_slice Try.underlying27 h with ⟨hcs, hx⟩ | ⟨x, len, cap, m, n, D, Pl, hcs, _, hl, hm, hmm, hx, hall⟩
  · injection hcs with hcs; subst hcs
    exact ⟨none, [], 0, rfl, fun i hi => by simp at hi, fun _ => rfl, Nat.le_refl _, by omega⟩
  · injection hcs with hcs; subst hcs
    injection hx with hd hp; subst hd
    have hmc : m = cap := by simpa using hmm
    subst hmc
    have hrl := reach_len Try.underlying27 hr
    have htot : ((List.range len).map D).length + ((List.range (m - len)).map fun j => D (len + j)).length = m := by simp; omega
    rw [htot, bytesSeg] at hrl
    have hreach : reachBytes = 140737488351232 := by decide
    rw [cellsSeg] at hall
    have each : ∀ i, i < len → ∃ s : SegV, SegOk s ∧ W.cell? (x.add (i * 5)) = some (.int .i64 s.num) ∧ W.cell? (x.add (i * 5 + 1)) = some (.int .i64 s.base) ∧ W.cell? (x.add (i * 5 + 2)) = some (.int .u32 (bv s.seed)) ∧ W.cell? (x.add (i * 5 + 3)) = some (.int .i64 s.end_) ∧ W.cell? (x.add (i * 5 + 4)) = some (.int .i64 s.size) := fun i hi => by
      obtain ⟨cs', h1, h2⟩ := hall i (by omega)
      obtain ⟨_, hlen, hcell⟩ := World.cells?_some h1
      obtain ⟨s, hcs, hok⟩ := read_seg_cells h2
      subst hcs
      have e0 := hcell 0 (by simp)
      have e1 := hcell 1 (by simp)
      have e2 := hcell 2 (by simp)
      have e3 := hcell 3 (by simp)
      have e4 := hcell 4 (by simp)
      rw [add_add] at e0 e1 e2 e3 e4
      simp at e0 e1 e2 e3 e4
      exact ⟨s, hok, e0, e1, e2, e3, e4⟩
    obtain ⟨B, hB⟩ := choose_lt each
    have hlen : ((List.range len).map B).length = len := by simp
    refine ⟨some x, (List.range len).map B, m, by rw [hlen], fun i hi => ?_, (fun h => by cases h), by rw [hlen]; exact hl, by omega⟩
    rw [hlen] at hi
    obtain ⟨hok, h0, h1, h2, h3, h4⟩ := hB i hi
    obtain ⟨b, off, spot⟩ := x
    have hspot : spot = none := by simpa [Addr.add] using World.cell?_spot (hB 0 (by omega)).2.1
    subst hspot
    rw [Addr.add_mid] at h0 h1 h2 h3 h4
    have hn : nthS ((List.range len).map B) i = B i := by simp [nthS, hi]
    rw [hn]
    exact ⟨hok, b, off, rfl, h0, h1, h2, h3, h4⟩
set_option maxRecDepth 100000 in
/-- The three cells of a catalog, read. -/
theorem read_cat_cells {W : World} {fuel : Nat} {cs : List Value} {d : DataW H} {p : List MemPlace} (h : DataW.trod enc Try.prog W 0 (fun _ => true) true fuel 29 cs = some (d, p)) (hr : Reach 29 d) :
    ∃ (c : CatV) (ao : Option Addr) (ca : Nat), cs = [.int .i64 c.gen, .int .i64 c.first, .slice ao c.segs.length ca] ∧ (R64 c.gen ∧ R64 c.first) ∧ SegsAt W ao c.segs ∧ (ao = none → ca = 0) ∧ c.segs.length ≤ ca ∧ ca ≤ 3518437208783 := by
  obtain ⟨y0, y1, y2, k, hxy, hlen, g0, g1, g2⟩ := trod_struct3 Try.underlying29 h
  rw [cellsCat] at hlen
  match cs, hlen with
  | [v0, v1, v2], _ =>
    simp [cellsI64Cat, cellsSegsCat] at g0 g1 g2
    obtain ⟨z0, hz0, _, hw0⟩ := DataW.trod_int Try.underlying2 g0
    obtain ⟨z1, hz1, _, hw1⟩ := DataW.trod_int Try.underlying2 g1
    injection hz0 with hz0; injection hz1 with hz1; subst hz0 hz1
    injection hxy with hd hp
    obtain ⟨d2, p2⟩ := y2
    obtain ⟨ao, L, ca, rfl, hs, hn, hle, hm⟩ := read_segs (d := d2) g2 (fun m hm => hr m (by
      subst hd
      simp only [DataW.weights, Try.underlying29]
      simp [DataW.weightsEach, hm]))
    exact ⟨⟨z0, z1, L⟩, ao, ca, rfl, ⟨i64_range hw0, i64_range hw1⟩, hs, hn, hle, hm⟩
set_option maxRecDepth 100000 in
theorem read_cat {W : World} {base : Nat} {v : Value} {d : DataW H} {p : List MemPlace} (hok : Value.okWide Try.prog W .any base 29 v) (h : DataW.Trod enc Try.prog W 0 (fun _ => true) true 29 v d p) (hr : Reach 29 d) :
    ∃ (c : CatV) (ao : Option Addr) (ca : Nat), v = .agg #[.int .i64 c.gen, .int .i64 c.first, .slice ao c.segs.length ca] ∧ CatAt W (.agg #[.int .i64 c.gen, .int .i64 c.first, .slice ao c.segs.length ca]) c := by
  obtain ⟨cs, rfl, _⟩ := okWide_struct Try.underlying29 hok
  obtain ⟨fuel, hf⟩ := h
  obtain ⟨c, ao, ca, e, hrg, hs, hn, hle, hm⟩ := read_cat_cells hf hr
  have e' : cs.toList = [.int .i64 c.gen, .int .i64 c.first, .slice ao c.segs.length ca] := e
  refine ⟨c, ao, ca, ?_, ⟨⟨ao, ca, rfl, hs, hle, by omega, hn⟩, hrg.1, hrg.2⟩⟩
  rw [show cs = #[.int .i64 c.gen, .int .i64 c.first, .slice ao c.segs.length ca] from Array.toList_inj.1 (e'.trans rfl)]
end
end Go.Proofs.Ytmkljmljbbijeaa

/-! What is asked of catalogs, among the arguments, alone and in slices. -/
namespace Go.Proofs.Ytmkljmljbbijeaa
open Go.ChangeShapes Go.WideShapes Go.ChangeAt Go.RowKit Go.Deep

/-- What is asked of a catalog: an LSN, an end, a size, a seed. -/
structure COpV where
  lsn : Int
  end_ : Int
  size : Int
  seed : BitVec 32
structure COpOk (o : COpV) : Prop where
  lsn : R64 o.lsn
  end_ : R64 o.end_
  size : R64 o.size
def nthO (L : List COpV) (i : Nat) : COpV := L.getD i ⟨0, 0, 0, 0#32⟩
structure COpCells (w : World) (b o : Nat) (s : COpV) : Prop where
  c0 : w.cell? ⟨b, o, none⟩ = some (.int .i64 s.lsn)
  c1 : w.cell? ⟨b, o + 1, none⟩ = some (.int .i64 s.end_)
  c2 : w.cell? ⟨b, o + 2, none⟩ = some (.int .i64 s.size)
  c3 : w.cell? ⟨b, o + 3, none⟩ = some (.int .u32 (bv s.seed))
theorem COpCells.below {w w' : World} {b o : Nat} {s : COpV} (h : COpCells w b o s) (hb : Below w.heap.size w w') : COpCells w' b o s :=
  ⟨cell_keep hb h.c0, cell_keep hb h.c1, cell_keep hb h.c2, cell_keep hb h.c3⟩
def COpsAt (w : World) (ao : Option Addr) (L : List COpV) : Prop := ∀ i, i < L.length → COpOk (nthO L i) ∧ ∃ b off, ao = some ⟨b, off, none⟩ ∧ COpCells w b (off + i * 4) (nthO L i)
theorem COpsAt.below {w w' : World} {ao : Option Addr} {L : List COpV} (h : COpsAt w ao L) (hb : Below w.heap.size w w') : COpsAt w' ao L := fun i hi => by
  obtain ⟨hr, b, off, e, hc⟩ := h i hi
  exact ⟨hr, b, off, e, hc.below hb⟩
def copV (o : COpV) : Value := .agg #[.int .i64 o.lsn, .int .i64 o.end_, .int .i64 o.size, .int .u32 (bv o.seed)]
section
variable {H : Type} {enc : TypeId × Value → H}
theorem trod_four {P : Program} {w : World} {base : Nat} {spare : TypeId → Bool} {held : Bool} {t : TypeId} {f0 f1 f2 f3 : Field} {fuel : Nat} {cs : List Value} {x : DataW H × List MemPlace} (ht : P.underlying t = some (.struct #[f0, f1, f2, f3])) (h : DataW.trod enc P w base spare held fuel t cs = some x) :
    ∃ y0 y1 y2 y3 n, x = (.agg [y0.1, y1.1, y2.1, y3.1], y0.2 ++ (y1.2 ++ (y2.2 ++ y3.2))) ∧ cs.length = P.cellsOf t ∧ DataW.trod enc P w base spare held n f0.type ((cs.drop f0.offset).take (P.cellsOf f0.type)) = some y0 ∧
      DataW.trod enc P w base spare held n f1.type ((cs.drop f1.offset).take (P.cellsOf f1.type)) = some y1 ∧ DataW.trod enc P w base spare held n f2.type ((cs.drop f2.offset).take (P.cellsOf f2.type)) = some y2 ∧
      DataW.trod enc P w base spare held n f3.type ((cs.drop f3.offset).take (P.cellsOf f3.type)) = some y3 := by
  obtain ⟨xs, n, _, rfl, hl, hlen, hf⟩ := DataW.trod_struct ht h
  match xs, hlen with
  | [y0, y1, y2, y3], _ => exact ⟨y0, y1, y2, y3, n, by simp, hl, by simpa using hf 0 f0 rfl, by simpa using hf 1 f1 rfl, by simpa using hf 2 f2 rfl, by simpa using hf 3 f3 rfl⟩
set_option maxRecDepth 100000 in
theorem cellsCOp : Try.prog.cellsOf 25 = 4 := by kernel_rfl
set_option maxRecDepth 100000 in
theorem bytesCOp : Try.prog.bytesOf 25 = 32 := by kernel_rfl
instance : Inhabited COpV := ⟨⟨0, 0, 0, 0#32⟩⟩
set_option maxRecDepth 100000 in
theorem read_cop_cells {W : World} {fuel : Nat} {cs : List Value} {d : DataW H} {p : List MemPlace} (h : DataW.trod enc Try.prog W 0 (fun _ => true) true fuel 25 cs = some (d, p)) :
    ∃ s : COpV, cs = [.int .i64 s.lsn, .int .i64 s.end_, .int .i64 s.size, .int .u32 (bv s.seed)] ∧ COpOk s := by
  obtain ⟨y0, y1, y2, y3, k, hxy, hlen, g0, g1, g2, g3⟩ := trod_four Try.underlying25 h
  rw [cellsCOp] at hlen
  match cs, hlen with
  | [v0, v1, v2, v3], _ =>
    simp [cellsI64Cat, cellsU32Cat, cellsIntCat] at g0 g1 g2 g3
    obtain ⟨z0, hz0, _, hw0⟩ := DataW.trod_int Try.underlying2 g0
    obtain ⟨z1, hz1, _, hw1⟩ := DataW.trod_int Try.underlying2 g1
    obtain ⟨z2, hz2, _, hw2⟩ := DataW.trod_int Try.underlying3 g2
    obtain ⟨z3, hz3, _, hw3⟩ := DataW.trod_int Try.underlying23 g3
    injection hz0 with hz0; injection hz1 with hz1; injection hz2 with hz2; injection hz3 with hz3
    subst hz0 hz1 hz2 hz3
    obtain ⟨s, rfl⟩ := u32_bv hw3
    exact ⟨⟨z0, z1, z2, s⟩, rfl, i64_range hw0, i64_range hw1, i64_range hw2⟩
set_option maxRecDepth 100000 in
theorem read_cop {W : World} {base : Nat} {v : Value} {d : DataW H} {p : List MemPlace} (hok : Value.okWide Try.prog W .any base 25 v) (h : DataW.Trod enc Try.prog W 0 (fun _ => true) true 25 v d p) :
    ∃ o : COpV, v = copV o ∧ COpOk o := by
  obtain ⟨cs, rfl, _⟩ := okWide_struct Try.underlying25 hok
  obtain ⟨fuel, hf⟩ := h
  obtain ⟨o, e, ho⟩ := read_cop_cells hf
  have e' : cs.toList = [.int .i64 o.lsn, .int .i64 o.end_, .int .i64 o.size, .int .u32 (bv o.seed)] := e
  refine ⟨o, ?_, ho⟩
  rw [show cs = #[.int .i64 o.lsn, .int .i64 o.end_, .int .i64 o.size, .int .u32 (bv o.seed)] from Array.toList_inj.1 (e'.trans rfl)]
  rfl
set_option maxRecDepth 100000 in
theorem read_cops {W : World} {fuel : Nat} {v : Value} {d : DataW H} {p : List MemPlace} (h : DataW.trod enc Try.prog W 0 (fun _ => true) true fuel 51 [v] = some (d, p)) (hr : Reach 51 d) :
    ∃ (ao : Option Addr) (L : List COpV) (cap : Nat), v = .slice ao L.length cap ∧ COpsAt W ao L ∧ (ao = none → cap = 0) ∧ L.length ≤ cap ∧ cap ≤ 4398046511104 := by
  rcases open_slice Try.underlying51 h with ⟨hcs, hx⟩ | ⟨x, len, cap, m, n, D, Pl, hcs, _, hl, hm, hmm, hx, hall⟩
  · injection hcs with hcs; subst hcs
    exact ⟨none, [], 0, rfl, fun i hi => by simp at hi, fun _ => rfl, Nat.le_refl _, by omega⟩
  · injection hcs with hcs; subst hcs
    injection hx with hd hp; subst hd
    have hmc : m = cap := by simpa using hmm
    subst hmc
    have hrl := reach_len Try.underlying51 hr
    have htot : ((List.range len).map D).length + ((List.range (m - len)).map fun j => D (len + j)).length = m := by simp; omega
    rw [htot, bytesCOp] at hrl
    have hreach : reachBytes = 140737488351232 := by decide
    rw [cellsCOp] at hall
    have each : ∀ i, i < len → ∃ s : COpV, COpOk s ∧ W.cell? (x.add (i * 4)) = some (.int .i64 s.lsn) ∧ W.cell? (x.add (i * 4 + 1)) = some (.int .i64 s.end_) ∧ W.cell? (x.add (i * 4 + 2)) = some (.int .i64 s.size) ∧ W.cell? (x.add (i * 4 + 3)) = some (.int .u32 (bv s.seed)) := fun i hi => by
      obtain ⟨cs', h1, h2⟩ := hall i (by omega)
      obtain ⟨_, hlen, hcell⟩ := World.cells?_some h1
      obtain ⟨s, hcs, hok⟩ := read_cop_cells h2
      subst hcs
      have e0 := hcell 0 (by simp)
      have e1 := hcell 1 (by simp)
      have e2 := hcell 2 (by simp)
      have e3 := hcell 3 (by simp)
      rw [add_add] at e0 e1 e2 e3
      simp at e0 e1 e2 e3
      exact ⟨s, hok, e0, e1, e2, e3⟩
    obtain ⟨B, hB⟩ := choose_lt each
    have hlen : ((List.range len).map B).length = len := by simp
    refine ⟨some x, (List.range len).map B, m, by rw [hlen], fun i hi => ?_, (fun h => by cases h), by rw [hlen]; exact hl, by omega⟩
    rw [hlen] at hi
    obtain ⟨hok, h0, h1, h2, h3⟩ := hB i hi
    obtain ⟨b, off, spot⟩ := x
    have hspot : spot = none := by simpa [Addr.add] using World.cell?_spot (hB 0 (by omega)).2.1
    subst hspot
    rw [Addr.add_mid] at h0 h1 h2 h3
    have hn : nthO ((List.range len).map B) i = B i := by simp [nthO, hi]
    rw [hn]
    exact ⟨hok, b, off, rfl, h0, h1, h2, h3⟩
end
end Go.Proofs.Ytmkljmljbbijeaa

/-! Slices of catalogs among the arguments. -/
namespace Go.Proofs.Ytmkljmljbbijeaa
open Go.ChangeShapes Go.WideShapes Go.ChangeAt Go.RowKit Go.Deep

def nthC (L : List CatV) (i : Nat) : CatV := L.getD i ⟨0, 0, []⟩
/-- A list of catalogs, each in three cells. -/
def CatsAt (w : World) (ao : Option Addr) (L : List CatV) : Prop := ∀ i, i < L.length → ∃ b off ai ca, ao = some ⟨b, off, none⟩ ∧ w.cell? ⟨b, off + i * 3, none⟩ = some (.int .i64 (nthC L i).gen) ∧ w.cell? ⟨b, off + i * 3 + 1, none⟩ = some (.int .i64 (nthC L i).first) ∧ w.cell? ⟨b, off + i * 3 + 2, none⟩ = some (.slice ai (nthC L i).segs.length ca) ∧ CatAt w (.agg #[.int .i64 (nthC L i).gen, .int .i64 (nthC L i).first, .slice ai (nthC L i).segs.length ca]) (nthC L i)
theorem CatsAt.below {w w' : World} {ao : Option Addr} {L : List CatV} (h : CatsAt w ao L) (hb : Below w.heap.size w w') : CatsAt w' ao L := fun i hi => by
  obtain ⟨b, off, ai, ca, e, h0, h1, h2, h3⟩ := h i hi
  exact ⟨b, off, ai, ca, e, cell_keep hb h0, cell_keep hb h1, cell_keep hb h2, h3.below hb⟩
section
variable {H : Type} {enc : TypeId × Value → H}
set_option maxRecDepth 100000 in
theorem read_cats {W : World} {fuel : Nat} {v : Value} {d : DataW H} {p : List MemPlace} (h : DataW.trod enc Try.prog W 0 (fun _ => true) true fuel 22 [v] = some (d, p)) (hr : Reach 22 d) :
    ∃ (ao : Option Addr) (L : List CatV) (cap : Nat), v = .slice ao L.length cap ∧ CatsAt W ao L ∧ (ao = none → cap = 0) ∧ L.length ≤ cap ∧ cap ≤ 3518437208783 := by
  rcases open_slice Try.underlying22 h with ⟨hcs, hx⟩ | ⟨x, len, cap, m, n, D, Pl, hcs, _, hl, hm, hmm, hx, hall⟩
  · injection hcs with hcs; subst hcs
    exact ⟨none, [], 0, rfl, fun i hi => by simp at hi, fun _ => rfl, Nat.le_refl _, by omega⟩
  · injection hcs with hcs; subst hcs
    injection hx with hd hp; subst hd
    have hmc : m = cap := by simpa using hmm
    subst hmc
    have hrl := reach_len Try.underlying22 hr
    have htot : ((List.range len).map D).length + ((List.range (m - len)).map fun j => D (len + j)).length = m := by simp; omega
    rw [htot, bytesCat] at hrl
    have hreach : reachBytes = 140737488351232 := by decide
    rw [cellsCat] at hall
    have each : ∀ i, i < len → ∃ c : CatV, ∃ ai ca, W.cell? (x.add (i * 3)) = some (.int .i64 c.gen) ∧ W.cell? (x.add (i * 3 + 1)) = some (.int .i64 c.first) ∧ W.cell? (x.add (i * 3 + 2)) = some (.slice ai c.segs.length ca) ∧ CatAt W (.agg #[.int .i64 c.gen, .int .i64 c.first, .slice ai c.segs.length ca]) c := fun i hi => by
      obtain ⟨cs', h1, h2⟩ := hall i (by omega)
      obtain ⟨_, hlen, hcell⟩ := World.cells?_some h1
      have hD : D i ∈ (List.range len).map D := List.mem_map.2 ⟨i, List.mem_range.2 hi, rfl⟩
      obtain ⟨c, ai, ca, hcs, hrg, hs, hn, hle, hcm⟩ := read_cat_cells h2 (reach_elem Try.underlying22 hr hD)
      subst hcs
      have e0 := hcell 0 (by simp)
      have e1 := hcell 1 (by simp)
      have e2 := hcell 2 (by simp)
      rw [add_add] at e0 e1 e2
      simp at e0 e1 e2
      exact ⟨c, ai, ca, e0, e1, e2, ⟨⟨ai, ca, rfl, hs, hle, by omega, hn⟩, hrg.1, hrg.2⟩⟩
    obtain ⟨B, hB⟩ := choose_lt each
    have hlen : ((List.range len).map B).length = len := by simp
    refine ⟨some x, (List.range len).map B, m, by rw [hlen], fun i hi => ?_, (fun h => by cases h), by rw [hlen]; exact hl, by omega⟩
    rw [hlen] at hi
    obtain ⟨ai, ca, h0, h1, h2, h3⟩ := hB i hi
    obtain ⟨b, off, spot⟩ := x
    have hspot : spot = none := by
      obtain ⟨_, _, h0, _⟩ := hB 0 (by omega)
      simpa [Addr.add] using World.cell?_spot h0
    subst hspot
    rw [Addr.add_mid] at h0 h1 h2
    have hn : nthC ((List.range len).map B) i = B i := by simp [nthC, hi]
    rw [hn]
    exact ⟨b, off, ai, ca, rfl, h0, h1, h2, h3⟩
end
end Go.Proofs.Ytmkljmljbbijeaa

/- Records and heads among the arguments, alone and in slices. -/
import Derived.Test.YtfadpjljokpenaaOpen
import Derived.Deep.Strs
import Derived.Deep.SlicePairs
namespace Go.Proofs.Ytfadpjljokpenaa
open Go.ChangeShapes Go.WideShapes Go.ChangeAt Go.RowKit Go.Deep

/-- A record: its number, its bytes. -/
structure RecV where
  lsn : Int
  data : List (BitVec 8)
instance : Inhabited RecV := ⟨⟨0, []⟩⟩
/-- Record i of some (a zero one behind the end). -/
def nthR (L : List RecV) (i : Nat) : RecV := L.getD i ⟨0, []⟩
def RecAt (w : World) (ao : Option Addr) (i : Nat) (r : RecV) : Prop :=
  (-9223372036854775808 ≤ r.lsn ∧ r.lsn ≤ 9223372036854775807) ∧ ∃ b off ai ci, ao = some ⟨b, off, none⟩ ∧ w.cell? ⟨b, off + i * 2, none⟩ = some (.int .i64 r.lsn) ∧ w.cell? ⟨b, off + i * 2 + 1, none⟩ = some (.slice ai r.data.length ci) ∧ BytesAt w ai r.data ∧ (ai = none → ci = 0) ∧ r.data.length ≤ ci ∧ ci ≤ 140737488351232
def RecsAt (w : World) (ao : Option Addr) (L : List RecV) : Prop := ∀ i, i < L.length → RecAt w ao i (nthR L i)
set_option maxRecDepth 100000 in
theorem RecsAt.below {w w' : World} {ao : Option Addr} {L : List RecV} (h : RecsAt w ao L) (hb : Below w.heap.size w w') : RecsAt w' ao L := fun i hi => by
  obtain ⟨hr, b, off, ai, ci, e, h0, h1, hbs, r⟩ := h i hi
  exact ⟨hr, b, off, ai, ci, e, cell_keep hb h0, cell_keep hb h1, hbs.below hb, r⟩
/-- A head: its numbers, its seed. -/
structure HeadV where
  num : Int
  base : Int
  seed : BitVec 32
def nthH (L : List HeadV) (i : Nat) : HeadV := L.getD i ⟨0, 0, 0#32⟩
def headV (h : HeadV) : Value := .agg #[.int .i64 h.num, .int .i64 h.base, .int .u32 (bv h.seed)]
def HeadOk (h : HeadV) : Prop := (-9223372036854775808 ≤ h.num ∧ h.num ≤ 9223372036854775807) ∧ (-9223372036854775808 ≤ h.base ∧ h.base ≤ 9223372036854775807)
def HeadsAt (w : World) (ao : Option Addr) (L : List HeadV) : Prop :=
  ∀ i, i < L.length → HeadOk (nthH L i) ∧ ∃ b off, ao = some ⟨b, off, none⟩ ∧ w.cell? ⟨b, off + i * 3, none⟩ = some (.int .i64 (nthH L i).num) ∧ w.cell? ⟨b, off + i * 3 + 1, none⟩ = some (.int .i64 (nthH L i).base) ∧ w.cell? ⟨b, off + i * 3 + 2, none⟩ = some (.int .u32 (bv (nthH L i).seed))
set_option maxRecDepth 100000 in
theorem HeadsAt.below {w w' : World} {ao : Option Addr} {L : List HeadV} (h : HeadsAt w ao L) (hb : Below w.heap.size w w') : HeadsAt w' ao L := fun i hi => by
  obtain ⟨hr, b, off, e, h0, h1, h2⟩ := h i hi
  exact ⟨hr, b, off, e, cell_keep hb h0, cell_keep hb h1, cell_keep hb h2⟩
section
variable {H : Type} {enc : TypeId × Value → H}
set_option maxRecDepth 100000 in
theorem cellsRec : Try.prog.cellsOf 34 = 2 := by kernel_rfl
set_option maxRecDepth 100000 in
theorem bytesRec : Try.prog.bytesOf 34 = 32 := by kernel_rfl
set_option maxRecDepth 100000 in
theorem cellsHead : Try.prog.cellsOf 50 = 3 := by kernel_rfl
set_option maxRecDepth 100000 in
theorem bytesHead : Try.prog.bytesOf 50 = 24 := by kernel_rfl
set_option maxRecDepth 100000 in
theorem cellsI64Rec : Try.prog.cellsOf 2 = 1 := by kernel_rfl
set_option maxRecDepth 100000 in
theorem cellsU32Rec : Try.prog.cellsOf 35 = 1 := by kernel_rfl
set_option maxRecDepth 100000 in
theorem cellsBytesRec : Try.prog.cellsOf 31 = 1 := by kernel_rfl
set_option maxRecDepth 100000 in
theorem u32_wf {z : Int} (h : (Lit.int .u32 z).wf = true) : ∃ x : BitVec 32, z = bv x := by
  have hb : 0 ≤ z ∧ z ≤ 4294967295 := by
    simp [Lit.wf, IntKind.min, IntKind.max, IntKind.signed, IntKind.bits] at h; omega
  refine ⟨BitVec.ofInt 32 z, ?_⟩
  unfold bv
  rw [BitVec.toNat_ofInt]
  have : ((2 ^ 32 : Nat) : Int) = 4294967296 := rfl
  omega
set_option maxRecDepth 100000 in
/-- The two cells of a record, read. -/
theorem read_rec_cells {W : World} {fuel : Nat} {cs : List Value} {d : DataW H} {p : List MemPlace} (h : DataW.trod enc Try.prog W 0 (fun _ => true) true fuel 34 cs = some (d, p)) (hr : Reach 34 d) :
    ∃ (r : RecV) (ai : Option Addr) (ci : Nat), cs = [.int .i64 r.lsn, .slice ai r.data.length ci] ∧ (-9223372036854775808 ≤ r.lsn ∧ r.lsn ≤ 9223372036854775807) ∧ BytesAt W ai r.data ∧ (ai = none → ci = 0) ∧ r.data.length ≤ ci ∧ ci ≤ 140737488351232 := by
  obtain ⟨y0, y1, k, hxy, hlen, g0, g1⟩ := trod_struct2 Try.underlying34 h
  rw [cellsRec] at hlen
  match cs, hlen with
  | [v0, v1], _ =>
    simp [cellsI64Rec, cellsBytesRec] at g0 g1
    obtain ⟨z0, hz0, _, hw0⟩ := DataW.trod_int Try.underlying2 g0
    injection hz0 with hz0; subst hz0
    injection hxy with hd hp
    obtain ⟨d1, p1⟩ := y1
    obtain ⟨ai, bs, ci, rfl, hbs, hn, hle, hm⟩ := read_bytes (d := d1) g1 (fun m hm => hr m (by
      subst hd
      simp only [DataW.weights, Try.underlying34]
      simp [DataW.weightsEach, hm]))
    exact ⟨⟨z0, bs⟩, ai, ci, rfl, i64_range hw0, hbs, hn, hle, hm⟩
set_option maxRecDepth 100000 in
theorem read_head_cells {W : World} {fuel : Nat} {cs : List Value} {d : DataW H} {p : List MemPlace} (h : DataW.trod enc Try.prog W 0 (fun _ => true) true fuel 50 cs = some (d, p)) :
    ∃ hd : HeadV, cs = [.int .i64 hd.num, .int .i64 hd.base, .int .u32 (bv hd.seed)] ∧ HeadOk hd := by
  obtain ⟨y0, y1, y2, k, hxy, hlen, g0, g1, g2⟩ := trod_struct3 Try.underlying50 h
  rw [cellsHead] at hlen
  match cs, hlen with
  | [v0, v1, v2], _ =>
    simp [cellsI64Rec, cellsU32Rec] at g0 g1 g2
    obtain ⟨z0, hz0, _, hw0⟩ := DataW.trod_int Try.underlying2 g0
    obtain ⟨z1, hz1, _, hw1⟩ := DataW.trod_int Try.underlying2 g1
    obtain ⟨z2, hz2, _, hw2⟩ := DataW.trod_int Try.underlying35 g2
    injection hz0 with hz0; injection hz1 with hz1; injection hz2 with hz2
    subst hz0 hz1 hz2
    obtain ⟨s, rfl⟩ := u32_wf hw2
    exact ⟨⟨z0, z1, s⟩, rfl, i64_range hw0, i64_range hw1⟩
set_option maxRecDepth 100000 in
theorem read_rec {W : World} {base : Nat} {v : Value} {d : DataW H} {p : List MemPlace} (hok : Value.okWide Try.prog W .any base 34 v) (h : DataW.Trod enc Try.prog W 0 (fun _ => true) true 34 v d p) (hr : Reach 34 d) :
    ∃ (r : RecV) (ai : Option Addr) (ci : Nat), v = .agg #[.int .i64 r.lsn, .slice ai r.data.length ci] ∧ (-9223372036854775808 ≤ r.lsn ∧ r.lsn ≤ 9223372036854775807) ∧ BytesAt W ai r.data ∧ (ai = none → ci = 0) ∧ r.data.length ≤ ci ∧ ci ≤ 140737488351232 := by
  obtain ⟨cs, rfl, _⟩ := okWide_struct Try.underlying34 hok
  obtain ⟨fuel, hf⟩ := h
  obtain ⟨r, ai, ci, e, rest⟩ := read_rec_cells hf hr
  refine ⟨r, ai, ci, ?_, rest⟩
  have e' : cs.toList = [.int .i64 r.lsn, .slice ai r.data.length ci] := e
  rw [show cs = #[.int .i64 r.lsn, .slice ai r.data.length ci] from Array.toList_inj.1 (e'.trans rfl)]
set_option maxRecDepth 100000 in
theorem read_head {W : World} {base : Nat} {v : Value} {d : DataW H} {p : List MemPlace} (hok : Value.okWide Try.prog W .any base 50 v) (h : DataW.Trod enc Try.prog W 0 (fun _ => true) true 50 v d p) :
    ∃ hd : HeadV, v = headV hd ∧ HeadOk hd := by
  obtain ⟨cs, rfl, _⟩ := okWide_struct Try.underlying50 hok
  obtain ⟨fuel, hf⟩ := h
  obtain ⟨hd, e, rest⟩ := read_head_cells hf
  refine ⟨hd, ?_, rest⟩
  have e' : cs.toList = [.int .i64 hd.num, .int .i64 hd.base, .int .u32 (bv hd.seed)] := e
  unfold headV
  rw [show cs = #[.int .i64 hd.num, .int .i64 hd.base, .int .u32 (bv hd.seed)] from Array.toList_inj.1 (e'.trans rfl)]

set_option maxRecDepth 100000 in
theorem read_recs {W : World} {fuel : Nat} {v : Value} {d : DataW H} {p : List MemPlace} (h : DataW.trod enc Try.prog W 0 (fun _ => true) true fuel 22 [v] = some (d, p)) (hr : Reach 22 d) :
    ∃ (ao : Option Addr) (L : List RecV) (cap : Nat), v = .slice ao L.length cap ∧ RecsAt W ao L ∧ (ao = none → cap = 0) ∧ L.length ≤ cap ∧ cap ≤ 4398046510976 := by
  rcases open_slice Try.underlying22 h with ⟨hcs, hx⟩ | ⟨x, len, cap, m, n, D, Pl, hcs, _, hl, hm, hmm, hx, hall⟩
  · injection hcs with hcs; subst hcs
    exact ⟨none, [], 0, rfl, fun i hi => by simp at hi, fun _ => rfl, Nat.le_refl _, by omega⟩
  · injection hcs with hcs; subst hcs
    injection hx with hd hp; subst hd
    have hmc : m = cap := by simpa using hmm
    subst hmc
    have hrl := reach_len Try.underlying22 hr
    have htot : ((List.range len).map D).length + ((List.range (m - len)).map fun j => D (len + j)).length = m := by simp; omega
    rw [htot, bytesRec] at hrl
    have hreach : reachBytes = 140737488351232 := by decide
    rw [cellsRec] at hall
    have each : ∀ i, i < len → ∃ r : RecV, (-9223372036854775808 ≤ r.lsn ∧ r.lsn ≤ 9223372036854775807) ∧ ∃ (ai : Option Addr) (ci : Nat), W.cell? (x.add (i * 2)) = some (.int .i64 r.lsn) ∧ W.cell? (x.add (i * 2 + 1)) = some (.slice ai r.data.length ci) ∧ BytesAt W ai r.data ∧ (ai = none → ci = 0) ∧ r.data.length ≤ ci ∧ ci ≤ 140737488351232 := fun i hi => by
      obtain ⟨cs', h1, h2⟩ := hall i (by omega)
      obtain ⟨_, hlen, hcell⟩ := World.cells?_some h1
      obtain ⟨r, ai, ci, hcs, hrange, hbs, hn, hle, hm⟩ := read_rec_cells h2 (reach_elem Try.underlying22 hr (List.mem_map.2 ⟨i, by simpa using hi, rfl⟩))
      subst hcs
      have e0 := hcell 0 (by simp)
      have e1 := hcell 1 (by simp)
      rw [add_add] at e0 e1
      simp at e0 e1
      exact ⟨r, hrange, ai, ci, e0, e1, hbs, hn, hle, hm⟩
    obtain ⟨B, hB⟩ := choose_lt each
    have hlen : ((List.range len).map B).length = len := by simp
    refine ⟨some x, (List.range len).map B, m, by rw [hlen], fun i hi => ?_, (fun h => by cases h), by rw [hlen]; exact hl, by omega⟩
    rw [hlen] at hi
    obtain ⟨hrange, ai, ci, h0, h1, rest⟩ := hB i hi
    obtain ⟨b, off, spot⟩ := x
    have hspot : spot = none := by
      obtain ⟨_, _, _, hz, _⟩ := hB 0 (by omega)
      simpa [Addr.add] using World.cell?_spot hz
    subst hspot
    rw [Addr.add_mid] at h0 h1
    have hn : nthR ((List.range len).map B) i = B i := by simp [nthR, hi]
    rw [hn]
    exact ⟨hrange, b, off, ai, ci, rfl, h0, h1, rest⟩
set_option maxRecDepth 100000 in
theorem read_heads {W : World} {fuel : Nat} {v : Value} {d : DataW H} {p : List MemPlace} (h : DataW.trod enc Try.prog W 0 (fun _ => true) true fuel 47 [v] = some (d, p)) (hr : Reach 47 d) :
    ∃ (ao : Option Addr) (L : List HeadV) (cap : Nat), v = .slice ao L.length cap ∧ HeadsAt W ao L ∧ (ao = none → cap = 0) ∧ L.length ≤ cap ∧ cap ≤ 5864062014806 := by
  rcases open_slice Try.underlying47 h with ⟨hcs, hx⟩ | ⟨x, len, cap, m, n, D, Pl, hcs, _, hl, hm, hmm, hx, hall⟩
  · injection hcs with hcs; subst hcs
    exact ⟨none, [], 0, rfl, fun i hi => by simp at hi, fun _ => rfl, Nat.le_refl _, by omega⟩
  · injection hcs with hcs; subst hcs
    injection hx with hd hp; subst hd
    have hmc : m = cap := by simpa using hmm
    subst hmc
    have hrl := reach_len Try.underlying47 hr
    have htot : ((List.range len).map D).length + ((List.range (m - len)).map fun j => D (len + j)).length = m := by simp; omega
    rw [htot, bytesHead] at hrl
    have hreach : reachBytes = 140737488351232 := by decide
    rw [cellsHead] at hall
    have each : ∀ i, i < len → ∃ r : HeadV, HeadOk r ∧ W.cell? (x.add (i * 3)) = some (.int .i64 r.num) ∧ W.cell? (x.add (i * 3 + 1)) = some (.int .i64 r.base) ∧ W.cell? (x.add (i * 3 + 2)) = some (.int .u32 (bv r.seed)) := fun i hi => by
      obtain ⟨cs', h1, h2⟩ := hall i (by omega)
      obtain ⟨_, hlen, hcell⟩ := World.cells?_some h1
      obtain ⟨r, hcs, hok⟩ := read_head_cells h2
      subst hcs
      have e0 := hcell 0 (by simp)
      have e1 := hcell 1 (by simp)
      have e2 := hcell 2 (by simp)
      rw [add_add] at e0 e1 e2
      simp at e0 e1 e2
      exact ⟨r, hok, e0, e1, e2⟩
    haveI : Inhabited HeadV := ⟨⟨0, 0, 0#32⟩⟩
    obtain ⟨B, hB⟩ := choose_lt each
    have hlen : ((List.range len).map B).length = len := by simp
    refine ⟨some x, (List.range len).map B, m, by rw [hlen], fun i hi => ?_, (fun h => by cases h), by rw [hlen]; exact hl, by omega⟩
    rw [hlen] at hi
    obtain ⟨hok, h0, h1, h2⟩ := hB i hi
    obtain ⟨b, off, spot⟩ := x
    have hspot : spot = none := by simpa [Addr.add] using World.cell?_spot (hB 0 (by omega)).2.1
    subst hspot
    rw [Addr.add_mid] at h0 h1 h2
    have hn : nthH ((List.range len).map B) i = B i := by simp [nthH, hi]
    rw [hn]
    exact ⟨hok, b, off, rfl, h0, h1, h2⟩
end
end Go.Proofs.Ytfadpjljokpenaa

/-! Slices of uint32 among the arguments. -/
namespace Go.Proofs.Ytfadpjljokpenaa
open Go.ChangeShapes Go.WideShapes Go.ChangeAt Go.RowKit Go.Deep

def at32 (L : List (BitVec 32)) (i : Nat) : BitVec 32 := L.getD i 0#32
def U32sAt (w : World) (ao : Option Addr) (L : List (BitVec 32)) : Prop :=
  ∀ i, i < L.length → ∃ b off, ao = some ⟨b, off, none⟩ ∧ w.cell? ⟨b, off + i, none⟩ = some (.int .u32 (bv (at32 L i)))
theorem U32sAt.below {w w' : World} {ao : Option Addr} {L : List (BitVec 32)} (h : U32sAt w ao L) (hb : Below w.heap.size w w') : U32sAt w' ao L := fun i hi => by
  obtain ⟨b, off, e, hc⟩ := h i hi
  exact ⟨b, off, e, cell_keep hb hc⟩
section
variable {H : Type} {enc : TypeId × Value → H}
theorem cellsU32 : Try.prog.cellsOf 35 = 1 := by kernel_rfl
theorem bytesU32 : Try.prog.bytesOf 35 = 4 := by kernel_rfl
theorem read_u32s {W : World} {fuel : Nat} {v : Value} {d : DataW H} {p : List MemPlace} (h : DataW.trod enc Try.prog W 0 (fun _ => true) true fuel 23 [v] = some (d, p)) (hr : Reach 23 d) :
    ∃ (ao : Option Addr) (L : List (BitVec 32)) (cap : Nat), v = .slice ao L.length cap ∧ U32sAt W ao L ∧ (ao = none → cap = 0) ∧ L.length ≤ cap ∧ cap ≤ 35184372087808 := by
  obtain ⟨ao, zs, cap, rfl, hc, hn, hl, hb, hm, hw⟩ := read_ints Try.underlying23 Try.underlying35 cellsU32 h hr
  rw [bytesU32] at hb
  have hreach : reachBytes = 140737488351232 := by decide
  have hlen : (zs.map fun z => BitVec.ofInt 32 z).length = zs.length := by simp
  refine ⟨ao, zs.map fun z => BitVec.ofInt 32 z, cap, by rw [hlen], fun i hi => ?_, hn, by rw [hlen]; exact hl, by omega⟩
  rw [hlen] at hi
  obtain ⟨b, off, e, hc⟩ := hc i hi
  refine ⟨b, off, e, hc.trans ?_⟩
  have hz : zs.getD i 0 = zs[i] := by simp [hi]
  have hb : 0 ≤ zs[i] ∧ zs[i] ≤ 4294967295 := by
    have h := hw _ (List.getElem_mem hi)
    simp [Lit.wf, IntKind.min, IntKind.max, IntKind.signed, IntKind.bits] at h; omega
  have e : at32 (zs.map fun z => BitVec.ofInt 32 z) i = BitVec.ofInt 32 zs[i] := by unfold at32; simp [hi]
  rw [hz, e]
  congr 2
  unfold bv
  rw [BitVec.toNat_ofInt]
  have : ((2 ^ 32 : Nat) : Int) = 4294967296 := rfl
  omega
end
end Go.Proofs.Ytfadpjljokpenaa

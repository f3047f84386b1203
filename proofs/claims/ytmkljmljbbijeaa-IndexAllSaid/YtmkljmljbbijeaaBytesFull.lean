/- append onto a slice of bytes that has no room for what comes: a new block of the call's own. -/
import Derived.Test.YtmkljmljbbijeaaBytes
namespace Go.Proofs.Ytmkljmljbbijeaa
open Go.RowKit

theorem cells_of_bytes {w : World} {ad : Addr} {bs : List (BitVec 8)} (hb : BytesAt w (some ad) bs) : ∀ j u, (bvals bs)[j]? = some u → w.cell? (ad.add j) = some u := by
  intro j u hu
  have hj : j < bs.length := by have := (List.getElem?_eq_some_iff.1 hu).1; rwa [bvals_length] at this
  obtain ⟨b, off, e, hc⟩ := hb j hj
  obtain rfl := Option.some.inj e
  rw [Addr.add_mid, hc, ← bvals_get hj, hu]
theorem own_grown {w : World} {base need old : Nat} {xs bs : List (BitVec 8)} (z : Value) (hz : z.cells.size = 1) (hbase : base ≤ w.heap.size) (hn : need = xs.length + bs.length) (_ho : old < need) (h63 : need ≤ maxLen) :
    OwnB (w.drew.alloc (.cells ((bvals xs).toArray ++ (bvals bs).toArray ++ Builtin.zeroCells z.cells (grownCap w need old 5 - need)) 5)) base (.slice (some ⟨w.heap.size, 0, none⟩) need (grownCap w need old 5)) (xs ++ bs) := by
  have hge := grownCap_ge w need old 5
  have hcm : grownCap w need old 5 ≤ maxLen := grownCap_le_maxLen w need old 5 h63
  unfold OwnB
  rw [List.length_append, ← hn, bvals_append]
  have hl : (bvals xs ++ bvals bs).length = need * 1 := by rw [List.length_append, bvals_length, bvals_length]; omega
  refine ⟨hl, .inr ⟨w.heap.size, _, _, rfl, hbase, heap_alloc_new w.drew _, hge, hcm, ?_, ?_⟩⟩
  · simp only [Array.size_append, List.size_toArray, size_zeroCells, hz, bvals_length]
    omega
  · simp only [Array.toList_append, List.append_assoc]
    rw [← List.append_assoc, ← hl]
    exact List.take_left
theorem wpList_append_full {w : World} {ops : Array Oper} {rest : List Oper} {o : Oper} {a : Act} {Q : Exit → Act → World → Prop} (hgd : o.guard = none) (s x : Operand)
    (ho : o.op = .call { callee := .builtin .append, args := #[s, x], argTypes := #[31, 31] })
    (base : Nat) (ad : Addr) (xs : List (BitVec 8)) (m sCap : Nat) (hs : a.eval s = .slice (some ad) m sCap) (hxl : m = xs.length) (hxs : BytesAt w (some ad) xs)
    (ao : Option Addr) (n cap : Nat) (bs : List (BitVec 8)) (hx : a.eval x = .slice ao n cap) (hn : n = bs.length) (hb : BytesAt w ao bs)
    (hfull : sCap < xs.length + bs.length) (hpos : 0 < bs.length) (hlen : xs.length + bs.length ≤ 140737488355328) (hbase : base ≤ w.heap.size)
    (h : ∀ v' w', OwnB w' base v' (xs ++ bs) → w.grownBy w' none → wpList Try.prog ops Q rest (a.put o.dst v') w') : wpList Try.prog ops Q (o :: rest) a w := by
  subst hn hxl
  obtain ⟨i, hi, hz0, hz1, hz2⟩ := info_parts Try.infoByte
  obtain ⟨g, off, rfl, -⟩ := hb 0 hpos
  have hsmall : xs.length + bs.length ≤ maxLen := by simp only [maxLen]; omega
  have hr := run_append_grow (P := Try.prog) w 31 o.type 5 i (.int .u8 0) Try.underlying31 hi hz0 ad xs.length sCap (bvals xs) (by rw [bvals_length, hz1, Nat.mul_one]) (cells_of_bytes hxs) _ bs.length cap (bvals bs) (by rw [bvals_length, hz1, Nat.mul_one]) (cells_of_bytes hb) hfull (by simp only [maxLen] at hsmall; omega)
    (by rw [hz2]; exact growslice_fits hfull (by omega))
  refine wpList_plain hgd fun K hK => ?_
  unfold Oper.wp execOp
  simp only [ho, resolve, invoke, builtin, Sem.run_bind, Sem.run_pure, Result.andThen_ok, List.map_toArray, List.map_cons, List.map_nil, hs, hx, hr]
  refine hK _ _ (h _ _ (own_grown (.int .u8 0) rfl hbase rfl hfull hsmall) ?_)
  exact ⟨rfl, rfl, rfl, by simp, fun k hk _ => (below_alloc w.drew _).block k hk⟩
end Go.Proofs.Ytmkljmljbbijeaa

/-! append onto bytes of the call's own, where the whole is somewhat greater than XBytes's law allows. -/
namespace Go.Proofs.Ytmkljmljbbijeaa
open Go.RowKit

theorem nextslicecap_far {need old : Nat} (h : old < need) : Builtin.nextslicecap need old ≤ need + need / 4 + 512 := by
  unfold Builtin.nextslicecap
  split
  · omega
  · split
    · omega
    · rw [growBy_four]
      repeat' split
      all_goals omega
theorem wpList_append_far {w : World} {ops : Array Oper} {rest : List Oper} {o : Oper} {a : Act} {Q : Exit → Act → World → Prop} (hgd : o.guard = none) (s x : Operand)
    (ho : o.op = .call { callee := .builtin .append, args := #[s, x], argTypes := #[31, 31] })
    (base : Nat) (v : Value) (xs : List (BitVec 8)) (hs : a.eval s = v) (hown : OwnB w base v xs)
    (ao : Option Addr) (n cap : Nat) (bs : List (BitVec 8)) (hx : a.eval x = .slice ao n cap) (hn : n = bs.length) (hb : BytesAt w ao bs) (hnil : ao = none → cap = 0)
    (hlen : xs.length + bs.length ≤ 140737488363520) (hbase : base ≤ w.heap.size)
    (h : ∀ v' w', OwnB w' base v' (xs ++ bs) → w.grownBy w' v.ownBlock → wpList Try.prog ops Q rest (a.put o.dst v') w') : wpList Try.prog ops Q (o :: rest) a w := by
  by_cases hle : xs.length + bs.length ≤ 140737488355328
  · exact wpList_append_bytes hgd s x ho base v xs hs hown ao n cap bs hx hn hb hnil hle hbase fun v' w' h1 h2 _ => h v' w' h1 h2
  · subst hn
    obtain ⟨i, hi, hz0, hz1, hz2⟩ := info_parts Try.infoByte
    cases ao with
    | none =>
      have h0 : bs.length = 0 := by
        rcases Nat.eq_zero_or_pos bs.length with h | h
        · exact h
        · obtain ⟨b, off, e, _⟩ := hb 0 h; cases e
      have hbs : bs = [] := List.eq_nil_of_length_eq_zero h0
      subst hbs
      rw [hnil rfl] at hx
      refine wpList_append_own_none hgd s x 31 ho base 5 i 1 Try.underlying31 hi v xs.length (bvals xs) hs hown hx ?_
      exact h v w (by simpa using hown) (World.grownBy.refl _ _)
    | some ad =>
      have hnews := cells_of_bytes hb
      have hl : (bvals bs).length = bs.length * i.size := by rw [bvals_length, hz1, Nat.mul_one]
      have hsmall : xs.length + bs.length ≤ maxLen := by simp only [maxLen]; omega
      refine wpList_plain hgd fun K hK => ?_
      have fin : ∀ v' w', (Builtin.append_ #[31, 31] o.type #[v, .slice (some ad) bs.length cap]).run Try.prog w = .ok v' w' → OwnB w' base v' (xs ++ bs) → w.grownBy w' v.ownBlock → o.wp Try.prog a w K Q := fun v' w' hr h1 h2 => by
        unfold Oper.wp execOp
        simp only [ho, resolve, invoke, builtin, Sem.run_bind, Sem.run_pure, Result.andThen_ok, List.map_toArray, List.map_cons, List.map_nil, hs, hx, hr]
        exact hK _ _ (h v' w' h1 h2)
      rcases hown.2 with ⟨rfl, h0⟩ | ⟨g, vc, cur, rfl, hbg, hg, hnc, hcm, hcs, htake⟩
      · have hxs : xs = [] := List.eq_nil_of_length_eq_zero h0
        subst hxs
        have hr := run_append_nil (P := Try.prog) w 31 o.type 5 i (.int .u8 0) Try.underlying31 hi hz0 ad bs.length cap (bvals bs) hl hnews (by simp at hle; omega) (by simp only [maxLen] at hsmall; simp at hsmall; omega) (by rw [hz2]; simp at hlen; omega)
        have ho2 := own_grown (w := w) (base := base) (need := bs.length) (old := 0) (xs := []) (bs := bs) (.int .u8 0) rfl hbase (by simp) (by simp at hle; omega) (by simpa using hsmall)
        refine fin _ _ hr (by simpa only [show (bvals ([] : List (BitVec 8))).toArray = #[] from rfl, Array.empty_append, List.nil_append] using ho2) ⟨rfl, rfl, rfl, by simp, fun k hk _ => (below_alloc w.drew _).block k hk⟩
      · by_cases hroom : xs.length + bs.length ≤ vc
        · have hfit : xs.length * i.size + (bvals bs).length ≤ cur.size := by rw [hz1, bvals_length, hcs]; omega
          have hr := run_append_room (P := Try.prog) w 31 o.type 5 i Try.underlying31 hi g xs.length vc cur hg ad bs.length cap (bvals bs) hl hnews (bvals_one bs) hroom hfit
          have hlx : (bvals xs).length = xs.length * 1 := by rw [bvals_length, Nat.mul_one]
          refine fin _ _ hr ?_ ⟨rfl, rfl, rfl, by simp, fun k _ hk => setRow_other w g k _ (fun e => hk (by simp [Value.ownBlock, e]))⟩
          unfold OwnB
          rw [List.length_append, bvals_append]
          have hlen2 : (bvals xs ++ bvals bs).length = (xs.length + bs.length) * 1 := by rw [List.length_append, bvals_length, bvals_length]; omega
          refine ⟨hlen2, .inr ⟨g, vc, _, rfl, hbg, setRow_heap w g cur _ _ _ hg, hroom, hcm, ?_, ?_⟩⟩
          · simp only [List.size_toArray, List.length_append, List.length_take, List.length_drop, Array.length_toList, hz1, bvals_length]
            omega
          · rw [hz1, htake, ← hlen2]
            exact List.take_left
        · have holds : ∀ j u, (bvals xs)[j]? = some u → w.cell? ((⟨g, 0, none⟩ : Addr).add j) = some u := World.ownsRow.cells hown (g := g) rfl
          have hr := run_append_grow (P := Try.prog) w 31 o.type 5 i (.int .u8 0) Try.underlying31 hi hz0 ⟨g, 0, none⟩ xs.length vc (bvals xs) (by rw [bvals_length, hz1, Nat.mul_one]) holds ad bs.length cap (bvals bs) hl hnews (by omega) (by simp only [maxLen] at hsmall; omega)
            (by rw [hz2]; have := nextslicecap_far (need := xs.length + bs.length) (old := vc) (by omega); omega)
          exact fin _ _ hr (own_grown (.int .u8 0) rfl hbase rfl (by omega) hsmall) ⟨rfl, rfl, rfl, by simp, fun k hk _ => (below_alloc w.drew _).block k hk⟩
end Go.Proofs.Ytmkljmljbbijeaa

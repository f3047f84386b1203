/- Pieces of a function's code, found by the slot of an 'if's test, or by a block's number. -/
import Derived.Test.YtmkljmljbbijeaaQuietTail
import Derived.Deep.DeepCutAuto
import Derived.Deep.CutBlock
namespace Go.Proofs.Ytmkljmljbbijeaa

def isTmp (n : Nat) : Operand → Bool
  | .tmp k => k == n
  | _ => false
/-- The 'if' on slot n. -/
def condAt (n : Nat) : Code → Option Code
  | .cond c a b => if isTmp n c then some (.cond c a b) else match condAt n a with
    | some x => some x
    | none => condAt n b
  | .seq a b => match condAt n a with
    | some x => some x
    | none => condAt n b
  | .block _ c => condAt n c
  | .loop c => condAt n c
  | .scope c => condAt n c
  | _ => none
/-- Block n. -/
def blockAt (n : Nat) : Code → Option Code
  | .block k c => if k == n then some (.block k c) else blockAt n c
  | .cond _ a b => match blockAt n a with
    | some x => some x
    | none => blockAt n b
  | .seq a b => match blockAt n a with
    | some x => some x
    | none => blockAt n b
  | .loop c => blockAt n c
  | .scope c => blockAt n c
  | _ => none
def isRegion (n : Nat) : Code → Bool
  | .region k _ _ => k == n
  | _ => false
/-- What begins with region n. -/
def seqAt (n : Nat) : Code → Option Code
  | .seq a b => if isRegion n a then some (.seq a b) else match seqAt n a with
    | some x => some x
    | none => seqAt n b
  | .cond _ a b => match seqAt n a with
    | some x => some x
    | none => seqAt n b
  | .block _ c => seqAt n c
  | .loop c => seqAt n c
  | .scope c => seqAt n c
  | _ => none
def seqOf (f : Func) (n : Nat) : Code := (f.body.bind (seqAt n)).getD .skip
def ifOf (f : Func) (n : Nat) : Code := (f.body.bind (condAt n)).getD .skip
def blkOf (f : Func) (n : Nat) : Code := (f.body.bind (blockAt n)).getD .skip
/-- A load of a row that is guarded and wanted. -/
theorem wpQuiet_load_on {P : Program} {ops : Array Oper} {C : World → Prop} {Q : Act → Prop} {rest : List Oper} {op : Oper} {a : Act} (hgd : Region.wanted op (yielded ops a.tmps) = true) (ty : TypeId) (x : Operand) (ho : op.op = .load ty x)
    (b o : Nat) (hx : a.eval x = .pointer (some ⟨b, o, none⟩)) (cs : List Value) (d : TypeDesc) (hc : ∀ w, C w → w.rangeAt b o cs)
    (hu : P.underlying ty = some d) (hd : d.isRow = true) (hi : (P.info? ty).map (·.size) = some cs.length)
    (h : wpQuiet P ops C Q rest (a.put op.dst (.agg cs.toArray))) : wpQuiet P ops C Q (op :: rest) a := by
  refine wpQuiet_step fun K hK => ?_
  rw [if_pos hgd]
  refine ⟨.agg cs.toArray, fun w hw => ?_, hK _ h⟩
  unfold Oper.quietAt execOp
  simp only [ho, hx, Instr.loadAt, Instr.sureAddr, Sem.run_bind, Sem.run_pure, Result.andThen_ok, run_loadVar_mid w b o ty cs d (hc w hw) hu hd hi]
  exact ⟨rfl, rfl⟩
end Go.Proofs.Ytmkljmljbbijeaa

/-! Pieces once more: the outermost code in a row that begins with a region. -/
namespace Go.Proofs.Ytmkljmljbbijeaa

/-- Does it begin with region n? -/
def begins (n : Nat) : Code → Bool
  | .region k _ _ => k == n
  | .seq a _ => begins n a
  | _ => false
/-- The outermost code in a row that begins with region n. -/
def fromAt (n : Nat) : Code → Option Code
  | .seq a b => if begins n (.seq a b) then some (.seq a b) else match fromAt n a with
    | some x => some x
    | none => fromAt n b
  | .cond _ a b => match fromAt n a with
    | some x => some x
    | none => fromAt n b
  | .block _ c => fromAt n c
  | .loop c => fromAt n c
  | .scope c => fromAt n c
  | _ => none
def fromOf (f : Func) (n : Nat) : Code := (f.body.bind (fromAt n)).getD .skip
end Go.Proofs.Ytmkljmljbbijeaa

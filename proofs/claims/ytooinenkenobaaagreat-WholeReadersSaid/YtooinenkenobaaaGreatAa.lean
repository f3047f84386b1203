/- Short names for laws of the library. -/
import Derived.ArgAppend
import Derived.Below
import Derived.BigQuiet
import Derived.ChangeOld
import Derived.Deep.AppendLies
import Derived.Deep.CutBlock
import Derived.Deep.DeepCutAuto
import Derived.Deep.DeepHandedRow
import Derived.Deep.MidRow
import Derived.Deep.Quiet
import Derived.Deep.SlicePairs
import Derived.Deep.Slices
import Derived.Deep.Strs
import Derived.Defers
import Derived.Ground.GgzProg
import Derived.Ground.SlgmProg
import Derived.LaidEqlPtr
import Derived.Laws.AppendOwnNone
import Derived.Laws.BytesArg
import Derived.Laws.Cover2
import Derived.Laws.Externs
import Derived.Laws.MakeOwn
import Derived.Laws.Small
import Derived.Lib.Hide
import Derived.Lib.LaidTab
import Derived.Lib.QuietBelow
import Derived.Lib.SlBytesConst
import Derived.Lib.SmallJoins
import Derived.Lib.TrailingZeros
import Derived.Lib.Zigzag
import Derived.LoopIn
import Derived.LoopNIn
import Derived.Maps.AppendAt
import Derived.Maps.OwnIn
import Derived.Maps.OwnSet
import Derived.Maps.RangeWalk
import Derived.OpenShut
import Derived.OwnWalk
import Derived.OwnWalkIn
import Derived.ProofKit
import Derived.RangeFuncBound
import Derived.RangeFuncBox
import Derived.RangeFuncKeeps
import Derived.RangeFuncLeaves
import Derived.RangeFuncNested
import Derived.Recover
import Derived.Shelf.Abstract
import Derived.Shelf.SlIter.Nil
import Derived.SizedLaws
import Derived.StillTail
import Derived.TacticsInMore
import Derived.WalkKit
import Derived.WalkLawsBesides
import Derived.WalkSpells
import Ieee.Arith
import Derived.Test.YtooinenkenobaaaGreatChecked
namespace Go.Proofs.YtooinenkenobaaaGreat
open Go Go.RowKit Go.Maps
theorem Az:type_of% @List.mem_of_mem_take:=@List.mem_of_mem_take
theorem EA:type_of% @List.flatMap_append:=@List.flatMap_append
theorem Ed:type_of% @Int.natCast_add:=@Int.natCast_add
theorem Ez:type_of% @List.length_pos_iff:=@List.length_pos_iff
theorem ID:type_of% @Go.wp_region_any:=@Go.wp_region_any
theorem Ih:type_of% @Nat.mul_lt_mul_of_pos_right:=@Nat.mul_lt_mul_of_pos_right
theorem Ii:type_of% @Go.Region.free_spec:=@Go.Region.free_spec
theorem KO:type_of% @Nat.lt_of_mul_lt_mul_right:=@Nat.lt_of_mul_lt_mul_right
theorem KR:type_of% @List.set_cons_succ:=@List.set_cons_succ
theorem KT:type_of% @List.drop_drop:=@List.drop_drop
theorem KU:type_of% @Go.rounds_succ:=@Go.rounds_succ
theorem Q8:type_of% @List.getElem?_inj:=@List.getElem?_inj
theorem Q9:type_of% @Int.le_refl:=@Int.le_refl
theorem QA:type_of% @Option.eq_none_or_eq_some:=@Option.eq_none_or_eq_some
theorem QC:type_of% @Array.getElem?_eq_getElem:=@Array.getElem?_eq_getElem
theorem V0:type_of% @Array.setIfInBounds_comm:=@Array.setIfInBounds_comm
theorem VU:type_of% @Go.YieldAt.mono:=@Go.YieldAt.mono
theorem VW:type_of% @Go.Addr.add_mid:=@Go.Addr.add_mid
theorem VZ:type_of% @Bool.false_or:=@Bool.false_or
theorem ZC:type_of% @Nat.shiftLeft_eq:=@Nat.shiftLeft_eq
theorem ZD:type_of% @Nat.le_of_not_lt:=@Nat.le_of_not_lt
theorem ZE:type_of% @Int.eq_ofNat_of_zero_le:=@Int.eq_ofNat_of_zero_le
theorem ZF:type_of% @Go.seqB_ready:=@Go.seqB_ready
theorem ZH:type_of% @Go.DataW.trod_int:=@Go.DataW.trod_int
theorem a8:type_of% @List.map_nil:=@List.map_nil
theorem aH:type_of% @Go.Lib.hid:=@Go.Lib.hid
theorem aI:type_of% @List.drop_succ_cons:=@List.drop_succ_cons
theorem aJ:type_of% @List.take_succ_cons:=@List.take_succ_cons
theorem aK:type_of% @List.getElem?_eq_some_iff:=@List.getElem?_eq_some_iff
theorem aL:type_of% @List.drop_zero:=@List.drop_zero
theorem aN:type_of% @List.length_append:=@List.length_append
theorem aO:type_of% @List.take_zero:=@List.take_zero
theorem aP:type_of% @List.getElem?_eq_getElem:=@List.getElem?_eq_getElem
theorem aQ:type_of% @List.getD_cons_zero:=@List.getD_cons_zero
theorem aR:type_of% @List.getD_cons_succ:=@List.getD_cons_succ
theorem aU:type_of% @Go.wpQuiet_nil:=@Go.wpQuiet_nil
theorem aV:type_of% @List.map_cons:=@List.map_cons
theorem aW:type_of% @Nat.lt_of_lt_of_le:=@Nat.lt_of_lt_of_le
theorem ae':type_of% @Go.Result.andThen_ok:=@Go.Result.andThen_ok
theorem ae7:type_of% @Nat.min_eq_left:=@Nat.min_eq_left
theorem ae9:type_of% @Go.World.ownsRow_nil:=@Go.World.ownsRow_nil
theorem aem:type_of% @beq_iff_eq:=@beq_iff_eq
theorem aen:type_of% @List.sum_replicate_nat:=@List.sum_replicate_nat
theorem aeo:type_of% @BitVec.toNat_shiftLeft:=@BitVec.toNat_shiftLeft
theorem afa:type_of% @Array.size_push:=@Array.size_push
theorem aj1:type_of% @List.mem_iff_getElem?:=@List.mem_iff_getElem?
theorem bC:type_of% @decide_eq_false:=@decide_eq_false
theorem bH:type_of% @List.getElem?_append_right:=@List.getElem?_append_right
theorem bI:type_of% @List.getElem?_append_left:=@List.getElem?_append_left
theorem bJ:type_of% @Nat.le_trans:=@Nat.le_trans
theorem bM:type_of% @decide_eq_true:=@decide_eq_true
theorem bR:type_of% @Nat.ne_of_lt:=@Nat.ne_of_lt
theorem bT:type_of% @Nat.le_refl:=@Nat.le_refl
theorem bV:type_of% @List.length_cons:=@List.length_cons
theorem bZ:type_of% @List.length_map:=@List.length_map
theorem bf:type_of% @if_neg:=@if_neg
theorem bj:type_of% @if_pos:=@if_pos
theorem bn:type_of% @Go.bodyPost_ret:=@Go.bodyPost_ret
theorem bp:type_of% @Go.heap_alloc_new:=@Go.heap_alloc_new
theorem br:type_of% @Array.getElem?_eq_some_iff:=@Array.getElem?_eq_some_iff
theorem cE:type_of% @List.mem_singleton:=@List.mem_singleton
theorem cF:type_of% @Nat.zero_le:=@Nat.zero_le
theorem cG:type_of% @List.mem_of_getElem?:=@List.mem_of_getElem?
theorem cH:type_of% @Go.results_cell_row:=@Go.results_cell_row
theorem cL:type_of% @Nat.zero_add:=@Nat.zero_add
theorem cM:type_of% @Nat.ne_of_gt:=@Nat.ne_of_gt
theorem cP:type_of% @List.length_singleton:=@List.length_singleton
theorem cQ:type_of% @Ne.symm:=@Ne.symm
theorem cR:type_of% @List.mem_cons:=@List.mem_cons
theorem cV:type_of% @List.length_drop:=@List.length_drop
theorem cX:type_of% @Go.RowKit.Below.refl:=@Go.RowKit.Below.refl
theorem cZ:type_of% @List.getElem?_map:=@List.getElem?_map
theorem cg:type_of% @Nat.lt_or_ge:=@Nat.lt_or_ge
theorem co:type_of% @Bool.and_eq_true:=@Bool.and_eq_true
theorem dD:type_of% @Nat.mod_eq_of_lt:=@Nat.mod_eq_of_lt
theorem dE:type_of% @Go.World.cell?_setCell_same:=@Go.World.cell?_setCell_same
theorem dH:type_of% @decide_eq_true_eq:=@decide_eq_true_eq
theorem dI:type_of% @Go.World.cell?_setCell_other:=@Go.World.cell?_setCell_other
theorem dK:type_of% @List.not_mem_nil:=@List.not_mem_nil
theorem dP:type_of% @Nat.le_of_lt:=@Nat.le_of_lt
theorem dR:type_of% @Nat.sub_self:=@Nat.sub_self
theorem dT:type_of% @Nat.add_mul:=@Nat.add_mul
theorem dW:type_of% @List.length_replicate:=@List.length_replicate
theorem dX:type_of% @of_decide_eq_true:=@of_decide_eq_true
theorem dY:type_of% @Nat.mul_one:=@Nat.mul_one
theorem de:type_of% @List.append_assoc:=@List.append_assoc
theorem dg:type_of% @List.length_take:=@List.length_take
theorem dj:type_of% @Go.World.putObj_heap_other:=@Go.World.putObj_heap_other
theorem dp:type_of% @Nat.mul_le_mul_right:=@Nat.mul_le_mul_right
theorem dt:type_of% @List.getElem?_take:=@List.getElem?_take
theorem eB:type_of% @List.getElem?_set:=@List.getElem?_set
theorem eC:type_of% @List.flatMap_cons:=@List.flatMap_cons
theorem eF:type_of% @List.cons_append:=@List.cons_append
theorem eK:type_of% @Go.block_lt_of_cell:=@Go.block_lt_of_cell
theorem eP:type_of% @List.append_nil:=@List.append_nil
theorem eQ:type_of% @Array.getElem?_toList:=@Array.getElem?_toList
theorem eV:type_of% @List.length_nil:=@List.length_nil
theorem eh:type_of% @Go.RowKit.Below.heap_setCell:=@Go.RowKit.Below.heap_setCell
theorem eu:type_of% @List.eq_nil_of_length_eq_zero:=@List.eq_nil_of_length_eq_zero
theorem fD:type_of% @Nat.add_zero:=@Nat.add_zero
theorem fE:type_of% @List.take_of_length_le:=@List.take_of_length_le
theorem fF:type_of% @List.getElem?_drop:=@List.getElem?_drop
theorem fO:type_of% @List.take_append_drop:=@List.take_append_drop
theorem fR:type_of% @Nat.mul_comm:=@Nat.mul_comm
theorem fW:type_of% @List.mem_cons_of_mem:=@List.mem_cons_of_mem
theorem fX:type_of% @List.getD_eq_getElem?_getD:=@List.getD_eq_getElem?_getD
theorem fY:type_of% @List.nil_append:=@List.nil_append
theorem fZ:type_of% @List.length_set:=@List.length_set
theorem fe:type_of% @Nat.pow_add:=@Nat.pow_add
theorem fg:type_of% @List.getElem?_of_mem:=@List.getElem?_of_mem
theorem fk:type_of% @BitVec.toNat_ofNat:=@BitVec.toNat_ofNat
theorem gC:type_of% @List.length_range:=@List.length_range
theorem gD:type_of% @Bool.eq_false_iff:=@Bool.eq_false_iff
theorem gF:type_of% @Go.results_none:=@Go.results_none
theorem gG:type_of% @Go.Sem.run_bind:=@Go.Sem.run_bind
theorem gH:type_of% @List.getElem?_eq_none:=@List.getElem?_eq_none
theorem gI:type_of% @BitVec.toNat_setWidth:=@BitVec.toNat_setWidth
theorem gM:type_of% @List.map_append:=@List.map_append
theorem gV:type_of% @Nat.eq_zero_or_pos:=@Nat.eq_zero_or_pos
theorem gX:type_of% @Nat.lt_succ_self:=@Nat.lt_succ_self
theorem iG:type_of% @or_false:=@or_false
theorem ig:type_of% @Nat.mul_assoc:=@Nat.mul_assoc
theorem io:type_of% @Nat.zero_mul:=@Nat.zero_mul
theorem ip:type_of% @List.take_add_one:=@List.take_add_one
theorem iq:type_of% @List.size_toArray:=@List.size_toArray
theorem ir:type_of% @Go.World.cell?_of_block:=@Go.World.cell?_of_block
theorem iu:type_of% @List.getElem?_range:=@List.getElem?_range
theorem iy:type_of% @Option.some.inj:=@Option.some.inj
theorem iz:type_of% @Nat.two_pow_pos:=@Nat.two_pow_pos
theorem jA:type_of% @Go.Joins.block_setCell:=@Go.Joins.block_setCell
theorem jU:type_of% @Nat.mul_le_mul:=@Nat.mul_le_mul
theorem jc:type_of% @List.ext_getElem?:=@List.ext_getElem?
theorem jd:type_of% @BitVec.eq_of_getLsbD_eq:=@BitVec.eq_of_getLsbD_eq
theorem jk:type_of% @List.mem_append:=@List.mem_append
theorem jl:type_of% @List.cons.injEq:=@List.cons.injEq
theorem jr:type_of% @Go.getD_replicate_false:=@Go.getD_replicate_false
theorem jy:type_of% @Nat.le_of_eq:=@Nat.le_of_eq
theorem kF:type_of% @Go.wpList_store_row:=@Go.wpList_store_row
theorem kH:type_of% @Option.map_some:=@Option.map_some
theorem kP:type_of% @if_true:=@if_true
theorem kQ:type_of% @Nat.one_mul:=@Nat.one_mul
theorem kR:type_of% @Nat.lt_trichotomy:=@Nat.lt_trichotomy
theorem kS:type_of% @Nat.compare_eq_gt:=@Nat.compare_eq_gt
theorem kT:type_of% @Go.IntWalk.i64_in:=@Go.IntWalk.i64_in
theorem kY:type_of% @Go.World.frozen?_setCell:=@Go.World.frozen?_setCell
theorem lJ:type_of% @List.sum_cons:=@List.sum_cons
theorem mg:type_of% @decide_eq_decide:=@decide_eq_decide
theorem mh:type_of% @List.getElem?_replicate:=@List.getElem?_replicate
theorem mi:type_of% @Go.IntKind.wrap_u32':=@Go.IntKind.wrap_u32'
theorem nF:type_of% @Nat.not_lt_zero:=@Nat.not_lt_zero
theorem nG:type_of% @Go.IntKind.wrap_u64:=@Go.IntKind.wrap_u64
theorem nj:type_of% @Nat.mod_lt:=@Nat.mod_lt
theorem nk:type_of% @Nat.add_sub_cancel:=@Nat.add_sub_cancel
theorem oJ:type_of% @List.mem_append_right:=@List.mem_append_right
theorem oK:type_of% @List.getElem?_toArray:=@List.getElem?_toArray
theorem oL:type_of% @BitVec.eq_of_toNat_eq:=@BitVec.eq_of_toNat_eq
theorem oO:type_of% @Nat.compare_eq_lt:=@Nat.compare_eq_lt
theorem oP:type_of% @Nat.compare_eq_eq:=@Nat.compare_eq_eq
theorem oQ:type_of% @Go.setRow_heap:=@Go.setRow_heap
theorem oR:type_of% @Go.cell_of_row:=@Go.cell_of_row
theorem p9:type_of% @Nat.pow_le_pow_right:=@Nat.pow_le_pow_right
theorem pB:type_of% @Go.ready_mono:=@Go.ready_mono
theorem qG:type_of% @List.mem_map:=@List.mem_map
theorem qH:type_of% @List.getElem_mem:=@List.getElem_mem
theorem qJ:type_of% @Nat.shiftRight_eq_div_pow:=@Nat.shiftRight_eq_div_pow
theorem qd:type_of% @Int.tmod_eq_emod_of_nonneg:=@Int.tmod_eq_emod_of_nonneg
theorem qe:type_of% @BitVec.getLsbD_ushiftRight:=@BitVec.getLsbD_ushiftRight
theorem rL:type_of% @List.append_toArray:=@List.append_toArray
theorem sA:type_of% @Go.Region.noSelect_spec:=@Go.Region.noSelect_spec
theorem sB:type_of% @BitVec.toNat_ushiftRight:=@BitVec.toNat_ushiftRight
theorem sq:type_of% @Option.isSome_iff_exists:=@Option.isSome_iff_exists
theorem sw:type_of% @Go.wp_loop_rounds:=@Go.wp_loop_rounds
theorem sy:type_of% @Go.info_parts:=@Go.info_parts
theorem tA:type_of% @Go.mem_ready:=@Go.mem_ready
theorem tB:type_of% @Go.callsIn_wide:=@Go.callsIn_wide
theorem tC:type_of% @Bool.false_eq_true:=@Bool.false_eq_true
theorem tI:type_of% @List.getElem?_cons_succ:=@List.getElem?_cons_succ
theorem tw:type_of% @Nat.lt_of_le_of_lt:=@Nat.lt_of_le_of_lt
theorem vB:type_of% @List.nodup_nil:=@List.nodup_nil
theorem vC:type_of% @List.nodup_append:=@List.nodup_append
theorem vD:type_of% @List.mem_range:=@List.mem_range
theorem xB:type_of% @List.length_filter_le:=@List.length_filter_le
theorem zF:type_of% @Nat.div_eq_of_lt:=@Nat.div_eq_of_lt
open Option renaming none->ae,some->ag
open Bool renaming false->ah,true->aj
open Go.Proofs.Tryz renaming prog->ax
open Go.Value renaming int->ay,pointer->aA,slice->aB,bool->aC,float->aD
open Go.IntKind renaming i64->az
open Go.FloatKind renaming f64->aE
open Go.Ending renaming returned->aF
open Go.Obj renaming cells->aG
open Go renaming World->am,Value->ar,TypeId->au,Calls->aw
theorem bP{α:Sort _}(a:α):∃x,a=x:=⟨a,rfl⟩
theorem nqZ{α:Sort _}(a:α):∃x,x=a:=⟨a,rfl⟩
theorem aZ{w:am}{g:Nat}(j:Nat){cs:Array ar}{t:au}{a:Nat×Nat}(b:w.heap[g]?=ag (.cells cs t a)):w.cell? ⟨g,j,ae⟩=cs[j]?:=oR w g j cs t a b
theorem bQ{w:am}{g:Nat}(j:Nat){cs:Array ar}{t:au}(a:w.heap[g]?=ag (.cells cs t (0,0))):w.frozen? ⟨g,j,ae⟩=ah:=frozen_of_row w g j cs t a
theorem dx{n:Nat}:n<=n:=bT n
theorem Rc{n:Nat}:0<=n:=cF n

end Go.Proofs.YtooinenkenobaaaGreat

/- How a law's arguments read: lists of numbers, and lists of structs of numbers, as they lie in memory, each number within its kind. Conditions: the types' own rows of the table. -/
import Derived.WalkKit
import Derived.ProofKit
import Derived.OpenShut
import Derived.ShutString
import Derived.ChangeOld
import Derived.SizedLaws
import Derived.Deep.Slices
import Derived.Deep.Fields
import Derived.ChangeSame
import Derived.Deep.Draws
namespace Go.Proofs.Ytalbjjoppndjjaa
section
open List
theorem f0a:type_of% @getElem?_eq_getElem:=@getElem?_eq_getElem
theorem f0c:type_of% @mem_of_getElem?:=@mem_of_getElem?
theorem f0d:type_of% @getD_eq_getElem?_getD:=@getD_eq_getElem?_getD
theorem f0e:type_of% @mem_append:=@mem_append
theorem f0h:type_of% @mem_cons:=@mem_cons
theorem f0i:type_of% @mem_singleton:=@mem_singleton
theorem f0j:type_of% @getElem?_append_left:=@getElem?_append_left
theorem f0m:type_of% @getElem?_append_right:=@getElem?_append_right
theorem f0o:type_of% @getElem?_eq_none:=@getElem?_eq_none
theorem f0p:type_of% @mem_of_mem_tail:=@mem_of_mem_tail
theorem f0q:type_of% @append_assoc:=@append_assoc
theorem f0r:type_of% @nodup_append:=@nodup_append
theorem f0s:type_of% @mem_cons_of_mem:=@mem_cons_of_mem
theorem f0t:type_of% @List.getElem?_eq_some_iff:=@List.getElem?_eq_some_iff
theorem f0v:type_of% @nodup_cons:=@nodup_cons
theorem f0w:type_of% @length_append:=@length_append
theorem f0z:type_of% @length_cons:=@length_cons
theorem f00:type_of% @mem_append_right:=@mem_append_right
theorem f02:type_of% @getElem?_modify:=@getElem?_modify
theorem f05:type_of% @append_nil:=@append_nil
theorem f07:type_of% @mem_cons_self:=@mem_cons_self
theorem f08:type_of% @mem_append_left:=@mem_append_left
theorem f1a:type_of% @getElem?_cons_zero:=@getElem?_cons_zero
theorem f1b:type_of% @getElem?_map:=@getElem?_map
theorem f1c:type_of% @length_map:=@length_map
theorem f1d:type_of% @drop_eq_getElem_cons:=@drop_eq_getElem_cons
theorem f1e:type_of% @length_modify:=@length_modify
theorem f1f:type_of% @not_mem_nil:=@not_mem_nil
theorem f1g:type_of% @getElem?_drop:=@getElem?_drop
theorem f1h:type_of% @eq_nil_of_length_eq_zero:=@eq_nil_of_length_eq_zero
theorem f1j:type_of% @nil_append:=@nil_append
theorem f1k:type_of% @getElem_mem:=@getElem_mem
theorem f1m:type_of% @length_pos_iff:=@length_pos_iff
theorem f1q:type_of% @mem_map:=@mem_map
theorem f1s:type_of% @getElem?_set_ne:=@getElem?_set_ne
theorem f1u:type_of% @getElem?_take_of_lt:=@getElem?_take_of_lt
theorem f1w:type_of% @length_nil:=@length_nil
theorem f1x:type_of% @length_take:=@length_take
theorem f1y:type_of% @cons_append:=@cons_append
theorem f11:type_of% @drop_eq_nil_of_le:=@drop_eq_nil_of_le
theorem f13:type_of% @take_append_of_le_length:=@take_append_of_le_length
theorem f18:type_of% @flatten_cons:=@flatten_cons
theorem f19:type_of% @flatMap_cons:=@flatMap_cons
theorem f2c:type_of% @getElem?_take:=@getElem?_take
theorem f2d:type_of% @foldl_cons:=@foldl_cons
theorem f2e:type_of% @getElem?_cons_succ:=@getElem?_cons_succ
theorem f2l:type_of% @size_toArray:=@size_toArray
theorem f2n:type_of% @pairwise_iff_getElem:=@pairwise_iff_getElem
theorem f2p:type_of% @getElem?_toArray:=@getElem?_toArray
theorem f2r:type_of% @length_singleton:=@length_singleton
theorem f2t:type_of% @take_length:=@take_length
theorem f2u:type_of% @drop_append_of_le_length:=@drop_append_of_le_length
theorem f2v:type_of% @getElem?_append:=@getElem?_append
theorem f2y:type_of% @flatten_append:=@flatten_append
theorem f2z:type_of% @take_of_length_le:=@take_of_length_le
theorem f3c:type_of% @length_replicate:=@length_replicate
theorem f3e:type_of% @getElem?_of_mem:=@getElem?_of_mem
theorem f3f:type_of% @mem_range'_1:=@mem_range'_1
theorem f3h:type_of% @ext_getElem?:=@ext_getElem?
theorem f3l:type_of% @map_congr_left:=@map_congr_left
theorem f3n:type_of% @all_eq_true:=@all_eq_true
theorem f3t:type_of% @countP_le_length:=@countP_le_length
theorem f3u:type_of% @length_set:=@length_set
theorem f3v:type_of% @map_cons:=@map_cons
end
theorem f0f:type_of% @Nat.le_refl:=@Nat.le_refl
theorem f0g:type_of% @Nat.lt_or_ge:=@Nat.lt_or_ge
theorem f0l:type_of% @Nat.le_of_ble_eq_true:=@Nat.le_of_ble_eq_true
theorem f0n:type_of% @Nat.lt_of_lt_of_le:=@Nat.lt_of_lt_of_le
theorem f0x:type_of% @Nat.eq_of_beq_eq_true:=@Nat.eq_of_beq_eq_true
theorem f0y:type_of% @Nat.zero_add:=@Nat.zero_add
theorem f01:type_of% @Nat.le_trans:=@Nat.le_trans
theorem f1i:type_of% @Nat.add_zero:=@Nat.add_zero
theorem f1l:type_of% @Nat.le_max_right:=@Nat.le_max_right
theorem f1n:type_of% @Nat.le_add_right_of_le:=@Nat.le_add_right_of_le
theorem f1p:type_of% @Nat.le_max_left:=@Nat.le_max_left
theorem f1t:type_of% @Nat.add_assoc:=@Nat.add_assoc
theorem f1v:type_of% @Nat.lt_succ_iff_lt_or_eq:=@Nat.lt_succ_iff_lt_or_eq
theorem f10:type_of% @Nat.zero_le:=@Nat.zero_le
theorem f2b:type_of% @Nat.and_one_is_mod:=@Nat.and_one_is_mod
theorem f2h:type_of% @Nat.beq_refl:=@Nat.beq_refl
theorem f2m:type_of% @Nat.le_succ_of_le:=@Nat.le_succ_of_le
theorem f2o:type_of% @Nat.zero_mul:=@Nat.zero_mul
theorem f2s:type_of% @Nat.eq_zero_or_pos:=@Nat.eq_zero_or_pos
theorem f2w:type_of% @Nat.le_of_eq:=@Nat.le_of_eq
theorem f2x:type_of% @Nat.add_mul:=@Nat.add_mul
theorem f3j:type_of% @Nat.mul_one:=@Nat.mul_one
theorem f3m:type_of% @Nat.mod_eq_of_lt:=@Nat.mod_eq_of_lt
theorem f3p:type_of% @Nat.succ_mul:=@Nat.succ_mul
theorem f3y:type_of% @Nat.one_mul:=@Nat.one_mul
theorem f3z:type_of% @Nat.div_le_self:=@Nat.div_le_self
theorem f0u:type_of% @Int.lt_irrefl:=@Int.lt_irrefl
theorem f1z:type_of% @Int.toNat_natCast:=@Int.toNat_natCast
theorem f2f:type_of% @Int.cast_ofNat_Int:=@Int.cast_ofNat_Int
theorem f2j:type_of% @Int.natCast_zero:=@Int.natCast_zero
theorem f2q:type_of% @Int.natCast_one:=@Int.natCast_one
theorem f3a:type_of% @Int.tmod_eq_emod_of_nonneg:=@Int.tmod_eq_emod_of_nonneg
theorem f3o:type_of% @Int.emod_lt_of_pos:=@Int.emod_lt_of_pos
theorem f3q:type_of% @Int.natCast_pow:=@Int.natCast_pow
theorem f3s:type_of% @Int.emod_nonneg:=@Int.emod_nonneg
theorem f0b:type_of% @Option.map_eq_some_iff:=@Option.map_eq_some_iff
theorem f1o:type_of% @Option.map_some:=@Option.map_some
theorem f1r:type_of% @Option.getD_some:=@Option.getD_some
theorem f3g:type_of% @Option.map_eq_map:=@Option.map_eq_map
theorem f03:type_of% @Bool.false_eq_true:=@Bool.false_eq_true
theorem f04:type_of% @Bool.and_eq_true:=@Bool.and_eq_true
theorem f17:type_of% @Bool.not_eq_true':=@Bool.not_eq_true'
theorem f2a:type_of% @Bool.eq_iff_iff:=@Bool.eq_iff_iff
theorem f2g:type_of% @Bool.true_eq_false:=@Bool.true_eq_false
theorem f3d:type_of% @Bool.not_false:=@Bool.not_false
theorem f3i:type_of% @Bool.false_or:=@Bool.false_or
theorem f3k:type_of% @Bool.not_true:=@Bool.not_true
theorem f3r:type_of% @Bool.or_eq_true:=@Bool.or_eq_true
theorem f3w:type_of% @Bool.and_self:=@Bool.and_self
theorem f3x:type_of% @Bool.and_false:=@Bool.and_false
theorem f0k:type_of% @Array.getD_eq_getD_getElem?:=@Array.getD_eq_getD_getElem?
theorem f06:type_of% @Array.getElem?_eq_some_iff:=@Array.getElem?_eq_some_iff
theorem f09:type_of% @Array.getElem?_toList:=@Array.getElem?_toList
theorem f12:type_of% @Array.getElem?_eq_getElem:=@Array.getElem?_eq_getElem
theorem f16:type_of% @Array.length_toList:=@Array.length_toList
theorem f2i:type_of% @Array.toList_inj:=@Array.toList_inj
theorem f2k:type_of% @Array.getElem?_append_left:=@Array.getElem?_append_left
theorem f3b:type_of% @Array.toList_map:=@Array.toList_map
open Go.ChangeShapes Go.WideShapes Go.ChangeAt Go.RowKit
set_option linter.all false
def ql1 (k:IntKind) (w:World) (A:Option Addr) (xs:List Int):Prop :=
 ∀ i (_:i<xs.length),∃ b off,A=some ⟨b,off,none⟩/\∀ i (h:i<xs.length),w.cell? ⟨b,off+i,none⟩=some (.int k xs[i])
theorem ql1.nil (k:IntKind) (w:World) (A:Option Addr):ql1 k w A []:=fun _ h=>absurd h (by simp)
theorem ql1.keep {k:IntKind} {w w':World} {A:Option Addr} {xs:List Int} (h:ql1 k w A xs) (hk:Below w.heap.size w w'):ql1 k w' A xs:=by
 intro i hi
 obtain⟨b,off,rfl,hc⟩:=h i hi
 refine⟨b,off,rfl,fun j hj=>?_⟩
 have:=hc j hj
 rw[←this]
 refine hk.cell ?_
 rcases f0g b w.heap.size with h1 | h1
 .exact h1
 .rw [World.cell?,Array.getElem?_eq_none (by exact h1)] at this;cases this
theorem jxw {k:IntKind} {a b:Int} (h:a=b):Ending.returned (.int k a)=.returned (.int k b):=by rw[h]
theorem hide {p:Prop} (h:p):Hid p:=h
def qe4 (n:Int):Prop:=-9223372036854775808<=n/\n<=9223372036854775807
theorem jf1 {n:Int} (h:(Lit.int .i64 n).wf=true):qe4 n:=by
 unfold qe4;simpa[Lit.wf,IntKind.min,IntKind.max,IntKind.signed,IntKind.bits] using h
theorem j4n {w:World} {x:Addr} {v:Value} (h:w.cell? x=some v):x=⟨x.block,x.off,none⟩:=by
 obtain⟨b,o,s⟩:=x
 cases s with
 | none=>rfl
 | some _ =>
  rw[World.cell?] at h
  simp only[Option.isSome_some,if_true] at h
  split at h<;>simp at h
section
variable {H:Type} {enc:TypeId×Value->H} {P:Program} {W:World}
end
end Go.Proofs.Ytalbjjoppndjjaa

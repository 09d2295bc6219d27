/- How a law's arguments read: lists of numbers, and lists of structs of numbers, as they lie in memory, each number within its kind. Conditions: the types' own rows of the table. -/
import Derived.WalkKit
import Derived.ProofKit
import Derived.OpenShut
import Derived.ShutString
import Derived.ChangeOld
import Derived.SizedLaws
import Derived.Deep.Slices
import Derived.Deep.Fields
import Derived.ChangeSame
import Derived.Deep.Draws
namespace Go.Proofs.Ytokcdoklcbgigaa
def f0a:=@Option.map_eq_some_iff
def f0b:=@List.getElem?_eq_getElem
def f0c:=@List.mem_of_getElem?
def f0d:=@List.getD_eq_getElem?_getD
def f0e:=@Bool.false_eq_true
def f0f:=@Nat.le_refl
def f0g:=@List.mem_append
def f0h:=@List.mem_cons
def f0i:=@Nat.zero_add
def f0j:=@Int.cast_ofNat_Int
def f0k:=@Bool.true_eq_false
def f0l:=@Nat.lt_or_ge
def f0m:=@List.nil_append
def f0n:=@List.cons_append
def f0o:=@Int.natCast_zero
def f0p:=@Nat.le_of_ble_eq_true
def f0q:=@Int.natCast_one
def f0r:=@List.mem_of_mem_tail
def f0s:=@Nat.add_zero
def f0t:=@Nat.add_assoc
def f0u:=@Bool.not_false
def f0v:=@Nat.lt_of_lt_of_le
def f0w:=@List.mem_singleton
def f0x:=@List.getElem?_eq_none
def f0y:=@Array.getD_eq_getD_getElem?
def f0z:=@Bool.not_true
def f00:=@List.nodup_append
def f01:=@Nat.eq_of_beq_eq_true
def f02:=@List.getElem?_append_left
def f03:=@List.append_assoc
def f04:=@List.getElem?_append_right
def f05:=@Int.lt_irrefl
def f06:=@List.nodup_cons
def f07:=@List.getElem?_eq_some_iff
def f08:=@Nat.le_trans
def f09:=@List.length_append
def f1a:=@Bool.and_eq_true
def f1b:=@List.getElem?_modify
def f1c:=@List.mem_append_right
def f1d:=@List.mem_cons_of_mem
def f1e:=@Array.getElem?_toList
def f1f:=@Array.getElem?_eq_some_iff
def f1g:=@List.length_pos_iff
def f1h:=@List.mem_cons_self
def f1i:=@List.mem_append_left
def f1j:=@List.getElem?_cons_zero
def f1k:=@List.getElem?_map
def f1l:=@List.length_map
def f1m:=@List.length_modify
def f1n:=@List.length_cons
def f1o:=@List.append_nil
def f1p:=@List.drop_eq_getElem_cons
def f1q:=@List.eq_nil_of_length_eq_zero
def f1r:=@List.getElem?_drop
def f1s:=@Nat.le_max_right
def f1t:=@Option.map_some
def f1u:=@Nat.le_add_right_of_le
def f1v:=@List.getElem?_set_ne
def f1w:=@List.not_mem_nil
def f1x:=@Nat.le_max_left
def f1y:=@List.length_take
def f1z:=@List.length_nil
def f10:=@Option.getD_some
def f11:=@Nat.beq_refl
def f12:=@Nat.lt_succ_iff_lt_or_eq
def f13:=@Nat.zero_le
def f14:=@Bool.eq_iff_iff
def f15:=@List.foldl_cons
def f16:=@List.mem_map
def f17:=@Int.toNat_natCast
def f18:=@Nat.le_succ_of_le
def f19:=@List.take_length
def f2a:=@List.getElem?_take_of_lt
def f2b:=@Bool.not_eq_true'
def f2c:=@List.flatten_cons
def f2d:=@Nat.and_one_is_mod
def f2e:=@List.getElem?_take
def f2f:=@Nat.zero_mul
def f2g:=@Array.toList_inj
def f2h:=@List.getElem_mem
def f2i:=@Array.getElem?_append_left
def f2j:=@Array.length_toList
def f2k:=@List.flatten_append
def f2l:=@Array.getElem?_eq_getElem
def f2m:=@List.length_singleton
def f2n:=@Nat.eq_zero_or_pos
def f2o:=@List.drop_append_of_le_length
def f2p:=@List.take_append_of_le_length
def f2q:=@List.getElem?_append
def f2r:=@List.getElem?_cons_succ
def f2s:=@Nat.le_of_eq
def f2t:=@List.ext_getElem?
def f2u:=@List.length_set
def f2v:=@List.drop_eq_nil_of_le
def f2w:=@Int.tmod_eq_emod_of_nonneg
def f2x:=@Array.toList_map
def f2y:=@List.getElem?_toArray
def f2z:=@Nat.ble_eq_true_of_le
def f20:=@List.length_replicate
def f21:=@List.take_succ_eq_append_getElem
def f22:=@List.getElem?_of_mem
def f23:=@List.getElem?_set
def f24:=@List.mem_range'_1
def f25:=@Option.map_eq_map
def f26:=@Nat.add_mul
def f27:=@Bool.false_or
def f28:=@List.map_congr_left
def f29:=@List.all_eq_true
def f3a:=@Int.emod_lt_of_pos
def f3b:=@Nat.succ_mul
def f3c:=@Int.natCast_pow
def f3d:=@Bool.or_eq_true
def f3e:=@Int.emod_nonneg
def f3f:=@List.map_append
def f3g:=@List.size_toArray
def f3h:=@Bool.and_self
def f3i:=@Nat.mul_le_mul_right
def f3j:=@List.mem_or_eq_of_mem_set
def f3k:=@Bool.and_false
def f3l:=@Nat.mod_eq_of_lt
def f3m:=@List.take_succ_cons
def f3n:=@Option.map_none
def f3o:=@Int.eq_ofNat_of_zero_le
def f3p:=@Nat.div_le_self
def f3q:=@List.set_eq_take_append_cons_drop
def f3r:=@List.filter_cons_of_pos
def f3s:=@List.filter_cons_of_neg
def f3t:=@List.length_range'
def f3u:=@List.countP_append
def f3v:=@List.take_of_length_le
def f3w:=@Nat.mul_one
def f3x:=@Array.getElem?_setIfInBounds_ne
def f3y:=@List.foldl_append
def f3z:=@List.drop_zero
def f30:=@List.countP_singleton
def f31:=@List.countP_le_length
def f32:=@List.mem_of_mem_take
def f33:=@List.map_cons
def f34:=@Nat.add_sub_cancel'
def f35:=@List.mem_filter
def f36:=@Array.getElem?_append_right
def f37:=@Nat.mod_two_eq_zero_or_one
def f38:=@Option.isSome_some
def f39:=@Nat.mul_comm
def f4a:=@List.map_replicate
def f4b:=@List.extract_eq_take_drop
def f4c:=@Bool.false_and
def f4d:=@Bool.eq_false_iff
def f4e:=@Nat.or_lt_two_pow
def f4f:=@List.mapM_toArray
def f4g:=@Option.isSome_iff_exists
def f4h:=@Array.size_append
def f4i:=@Array.getElem?_replicate
def f4j:=@List.range'_eq_map_range
def f4k:=@List.take_add_one
def f4l:=@Bool.true_and
def f4m:=@Nat.one_mul
def f4n:=@Int.natCast_ediv
def f4o:=@List.length_drop
def f4p:=@Nat.min_le_right
def f4q:=@List.drop_length
def f4r:=@List.getElem?_set_self
def f4s:=@Nat.add_comm
def f4t:=@Nat.and_le_left
def f4u:=@Int.le_of_lt
def f4v:=@Nat.one_ne_zero
def f4w:=@List.drop_drop
def f4x:=@List.take_zero
def f4y:=@List.mem_range
def f4z:=@List.mapM_cons
open Go.ChangeShapes Go.WideShapes Go.ChangeAt Go.RowKit
set_option linter.all false
def qne (k:IntKind) (w:World) (A:Option Addr) (xs:List Int):Prop :=
 ∀ i (_:i<xs.length),∃ b off,A=some ⟨b,off,none⟩/\∀ i (h:i<xs.length),w.cell? ⟨b,off+i,none⟩=some (.int k xs[i])
theorem qne.nil (k:IntKind) (w:World) (A:Option Addr):qne k w A []:=fun _ h=>absurd h (by simp)
theorem qne.keep {k:IntKind} {w w':World} {A:Option Addr} {xs:List Int} (h:qne k w A xs) (hk:Below w.heap.size w w'):qne k w' A xs:=by
 intro i hi
 obtain ⟨b,off,rfl,hc⟩:=h i hi
 refine ⟨b,off,rfl,fun j hj=>?_⟩
 have:=hc j hj
 rw [←this]
 refine hk.cell ?_
 rcases f0l b w.heap.size with h1 | h1
 ·exact h1
 ·rw [World.cell?,Array.getElem?_eq_none (by exact h1)] at this;cases this
theorem j5i {k:IntKind} {a b:Int} (h:a=b):Ending.returned (.int k a)=.returned (.int k b):=by rw [h]
theorem hide {p:Prop} (h:p):Hid p:=h
def j5d (n:Int):Prop:=-9223372036854775808<=n/\n<=9223372036854775807
theorem jct {n:Int} (h:(Lit.int .i64 n).wf=true):j5d n:=by
 unfold j5d;simpa [Lit.wf,IntKind.min,IntKind.max,IntKind.signed,IntKind.bits] using h
theorem j5j {w:World} {x:Addr} {v:Value} (h:w.cell? x=some v):x=⟨x.block,x.off,none⟩:=by
 obtain ⟨b,o,s⟩:=x
 cases s with
 | none=>rfl
 | some _ =>
  rw [World.cell?] at h
  simp only [f38,if_true] at h
  split at h<;>simp at h
section
variable {H:Type} {enc:TypeId×Value->H} {P:Program} {W:World}
end
end Go.Proofs.Ytokcdoklcbgigaa

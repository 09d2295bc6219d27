/- An interpreter of the model's code over an abstract heap. -/
import Derived.WalkKit
import Derived.Lib.ItoaNum
namespace Go.Proofs.YtkpadfebkaangaaGreatDoor
theorem oa{p:Prop}(h:p:=by omega):p:=h
theorem se{p:Prop}(h:p:=by simp):p:=h
theorem ka{p:Prop}(h:p:=by kernel_rfl):p:=h
theorem ke{α:Type _}{x:Option α}{a b:α}(h:x=some a)(e:a=b:=by kernel_rfl):x=some b:=h.trans (congrArg some e)
section
open List
theorem f0b:type_of% @getElem?_eq_getElem:=@getElem?_eq_getElem
theorem f0c:type_of% @mem_of_getElem?:=@mem_of_getElem?
theorem f0d:type_of% @length_append:=@length_append
theorem f0e:type_of% @mem_append:=@mem_append
theorem f0f:type_of% @mem_cons:=@mem_cons
theorem f0g:type_of% @append_assoc:=@append_assoc
theorem f0i:type_of% @length_cons:=@length_cons
theorem f0j:type_of% @mem_of_mem_tail:=@mem_of_mem_tail
theorem f0m:type_of% @nodup_append:=@nodup_append
theorem f0p:type_of% @getD_eq_getElem?_getD:=@getD_eq_getElem?_getD
theorem f0q:type_of% @List.getElem?_eq_some_iff:=@List.getElem?_eq_some_iff
theorem f0r:type_of% @nodup_cons:=@nodup_cons
theorem f0t:type_of% @flatten_cons:=@flatten_cons
theorem f0u:type_of% @map_cons:=@map_cons
theorem f0v:type_of% @mem_singleton:=@mem_singleton
theorem f0w:type_of% @drop_eq_getElem_cons:=@drop_eq_getElem_cons
theorem f0x:type_of% @getElem?_append_right:=@getElem?_append_right
theorem f0y:type_of% @getElem?_eq_none:=@getElem?_eq_none
theorem f00:type_of% @length_nil:=@length_nil
theorem f01:type_of% @mem_cons_of_mem:=@mem_cons_of_mem
theorem f03:type_of% @length_map:=@length_map
theorem f04:type_of% @mem_append_right:=@mem_append_right
theorem f06:type_of% @append_nil:=@append_nil
theorem f07:type_of% @getElem?_append_left:=@getElem?_append_left
theorem f08:type_of% @mem_append_left:=@mem_append_left
theorem f09:type_of% @getElem?_map:=@getElem?_map
theorem f1a:type_of% @mem_cons_self:=@mem_cons_self
theorem f1d:type_of% @length_modify:=@length_modify
theorem f1e:type_of% @not_mem_nil:=@not_mem_nil
theorem f1f:type_of% @drop_zero:=@drop_zero
theorem f1h:type_of% @getElem?_drop:=@getElem?_drop
theorem f1i:type_of% @eq_nil_of_length_eq_zero:=@eq_nil_of_length_eq_zero
theorem f1j:type_of% @mem_map:=@mem_map
theorem f1m:type_of% @nil_append:=@nil_append
theorem f1n:type_of% @getElem?_modify:=@getElem?_modify
theorem f1p:type_of% @getElem?_cons_zero:=@getElem?_cons_zero
theorem f1r:type_of% @length_take:=@length_take
theorem f1s:type_of% @drop_length:=@drop_length
theorem f1v:type_of% @length_pos_iff:=@length_pos_iff
theorem f1x:type_of% @cons_append:=@cons_append
theorem f1y:type_of% @getElem?_take_of_lt:=@getElem?_take_of_lt
theorem f2c:type_of% @length_singleton:=@length_singleton
theorem f2d:type_of% @getElem?_take:=@getElem?_take
theorem f2f:type_of% @getElem?_set_ne:=@getElem?_set_ne
theorem f2g:type_of% @flatten_append:=@flatten_append
theorem f2k:type_of% @getElem?_toArray:=@getElem?_toArray
theorem f2l:type_of% @length_replicate:=@length_replicate
theorem f2m:type_of% @sum_cons:=@sum_cons
theorem f2n:type_of% @getElem?_append:=@getElem?_append
theorem f2o:type_of% @getElem?_of_mem:=@getElem?_of_mem
theorem f2r:type_of% @mem_range'_1:=@mem_range'_1
theorem f2s:type_of% @ext_getElem?:=@ext_getElem?
theorem f2u:type_of% @getElem?_cons_succ:=@getElem?_cons_succ
theorem f2v:type_of% @take_length:=@take_length
theorem f2w:type_of% @drop_eq_nil_of_le:=@drop_eq_nil_of_le
theorem f20:type_of% @map_append:=@map_append
theorem f23:type_of% @getElem_mem:=@getElem_mem
theorem f24:type_of% @all_eq_true:=@all_eq_true
theorem f25:type_of% @foldl_cons:=@foldl_cons
theorem f28:type_of% @length_set:=@length_set
end
theorem f0h:type_of% @Nat.le_refl:=@Nat.le_refl
theorem f0k:type_of% @Nat.eq_of_beq_eq_true:=@Nat.eq_of_beq_eq_true
theorem f0l:type_of% @Nat.le_of_ble_eq_true:=@Nat.le_of_ble_eq_true
theorem f0n:type_of% @Nat.lt_or_ge:=@Nat.lt_or_ge
theorem f0o:type_of% @Nat.lt_of_lt_of_le:=@Nat.lt_of_lt_of_le
theorem f02:type_of% @Nat.le_trans:=@Nat.le_trans
theorem f1b:type_of% @Nat.zero_add:=@Nat.zero_add
theorem f1o:type_of% @Nat.le_max_right:=@Nat.le_max_right
theorem f1q:type_of% @Nat.le_add_right_of_le:=@Nat.le_add_right_of_le
theorem f1t:type_of% @Nat.le_max_left:=@Nat.le_max_left
theorem f1u:type_of% @Nat.add_assoc:=@Nat.add_assoc
theorem f1w:type_of% @Nat.beq_refl:=@Nat.beq_refl
theorem f1z:type_of% @Nat.add_zero:=@Nat.add_zero
theorem f11:type_of% @Nat.and_one_is_mod:=@Nat.and_one_is_mod
theorem f12:type_of% @Nat.mul_one:=@Nat.mul_one
theorem f15:type_of% @Nat.zero_le:=@Nat.zero_le
theorem f17:type_of% @Nat.le_succ_of_le:=@Nat.le_succ_of_le
theorem f2a:type_of% @Nat.zero_mul:=@Nat.zero_mul
theorem f2j:type_of% @Nat.mod_eq_of_lt:=@Nat.mod_eq_of_lt
theorem f2q:type_of% @Nat.lt_succ_iff_lt_or_eq:=@Nat.lt_succ_iff_lt_or_eq
theorem f2t:type_of% @Nat.le_of_eq:=@Nat.le_of_eq
theorem f2x:type_of% @Nat.eq_zero_or_pos:=@Nat.eq_zero_or_pos
theorem f2y:type_of% @Nat.add_mul:=@Nat.add_mul
theorem f2z:type_of% @Nat.ble_eq_true_of_le:=@Nat.ble_eq_true_of_le
theorem f27:type_of% @Nat.div_le_self:=@Nat.div_le_self
theorem f29:type_of% @Nat.succ_mul:=@Nat.succ_mul
theorem f0s:type_of% @Int.lt_irrefl:=@Int.lt_irrefl
theorem f1k:type_of% @Int.toNat_natCast:=@Int.toNat_natCast
theorem f2i:type_of% @Int.tmod_eq_emod_of_nonneg:=@Int.tmod_eq_emod_of_nonneg
theorem f0a:type_of% @Option.map_eq_some_iff:=@Option.map_eq_some_iff
theorem f1l:type_of% @Option.getD_some:=@Option.getD_some
theorem f26:type_of% @Option.map_some:=@Option.map_some
theorem f05:type_of% @Bool.and_eq_true:=@Bool.and_eq_true
theorem f1c:type_of% @Bool.false_eq_true:=@Bool.false_eq_true
theorem f10:type_of% @Bool.eq_iff_iff:=@Bool.eq_iff_iff
theorem f18:type_of% @Bool.false_or:=@Bool.false_or
theorem f2b:type_of% @Bool.or_eq_true:=@Bool.or_eq_true
theorem f2p:type_of% @Bool.not_eq_true':=@Bool.not_eq_true'
theorem f21:type_of% @Bool.and_self:=@Bool.and_self
theorem f22:type_of% @Bool.and_false:=@Bool.and_false
theorem f0z:type_of% @Array.getD_eq_getD_getElem?:=@Array.getD_eq_getD_getElem?
theorem f1g:type_of% @Array.getElem?_toList:=@Array.getElem?_toList
theorem f13:type_of% @Array.toList_inj:=@Array.toList_inj
theorem f14:type_of% @Array.getElem?_append_left:=@Array.getElem?_append_left
theorem f16:type_of% @Array.length_toList:=@Array.length_toList
theorem f19:type_of% @Array.getElem?_eq_getElem:=@Array.getElem?_eq_getElem
theorem f2e:type_of% @Array.toList_map:=@Array.toList_map
theorem f2h:type_of% @Array.getElem?_eq_some_iff:=@Array.getElem?_eq_some_iff
end Go.Proofs.YtkpadfebkaangaaGreatDoor
namespace Go.Proofs.YtkpadfebkaangaaGreatDoor.Ev
noncomputable section
open Go
set_option linter.all false
def bT:TypeId:=47
inductive Tr (α:Type) where
 | leaf
 | node (l:Tr α) (v:Option α) (r:Tr α)
def Tr.get {α:Type} (t:Tr α):Nat->Option α :=
 Tr.rec (fun _=>none)
  (fun _ v _ gl gr k=>Bool.rec (Bool.rec (gl (Nat.div k 2)) (gr (Nat.div k 2)) (Nat.beq (Nat.land k 1) 1)) v (Nat.beq k 1)) t
def Tr.put {α:Type} (n:Nat):Tr α->Nat->Option α->Tr α :=
 Nat.rec (fun t _ _=>t)
  (fun _ ih t k x=>Tr.casesOn t
   (Bool.rec (Bool.rec (.node (ih .leaf (Nat.div k 2) x) none .leaf) (.node .leaf none (ih .leaf (Nat.div k 2) x)) (Nat.beq (Nat.land k 1) 1)) (.node .leaf x .leaf) (Nat.beq k 1))
   (fun l v r=>Bool.rec (Bool.rec (.node (ih l (Nat.div k 2) x) v r) (.node l v (ih r (Nat.div k 2) x)) (Nat.beq (Nat.land k 1) 1)) (.node l x r) (Nat.beq k 1))) n
inductive BO where
 | add | sub | mul | quo | rem | eq | ne | lt | le | gt | ge | and | or | andNot | shl | shr
inductive Sx where
 | arg (i:Nat)
 | lit (n:Int)
 | op (o:BO) (a b:Sx)
 | bnd (i m:Nat)
inductive SV where
 | bool (b:Bool)
 | int (k:IntKind) (n:Int)
 | sym (e:Sx)
 | ptr (b off:Nat)
 | nilPtr
 | slice (b off len mc:Nat) (ex:Bool) (sz:Nat)
 | nilSlice
 | func (f:FuncId) (caps:List (Nat×Nat))
 | nilFunc
 | nilMap
 | map (b:Nat)
 | str (l:List UInt8)
 | lst (rows:List (List SV))
 | cp (cells:List SV)
 | emp
 | ifc (b:Bool)
inductive AV where
 | s (x:SV)
 | agg (l:List SV)
 | tup (l:List (Bool×List SV))
 | undef
 | any
inductive AB where
 | arr (cells:List SV) (ty:TypeId)
 | map (va:Bool) (es:List (List SV×List SV))
inductive Hp where
 | mk (next:Nat) (t:Tr AB) (lo:Nat) (hid:List (Nat×Nat))
inductive Od where
 | l (i:Nat)
 | g (i:Nat)
 | c (v:AV)
inductive PO where
 | mv (x:Od)
 | pick (c a b:Od)
 | build (zero:List SV) (ps:List (Nat×Nat×Od))
 | bin (o:BO) (x y:Od)
 | eqv (neg agg:Bool) (sig:List Bool) (x y:Od)
 | not (x:Od)
 | neg (x:Od)
 | mkfun (f:FuncId) (caps:List Od)
 | slice (size:Nat) (x:Od) (lo hi:Option Od)
 | slice3 (size:Nat) (x:Od) (lo hi mx:Option Od)
 | fld (off:Nat) (x:Od)
 | fval (off n:Nat) (agg:Bool) (x:Od)
 | ixa (n size:Nat) (x i:Od)
 | ixs (size:Nat) (x i:Od)
 | ival (n size:Nat) (agg:Bool) (x i:Od)
 | ext (i:Nat) (x:Od)
 | len (x:Od)
 | conv (k:IntKind) (x:Od)
 | nchk (x:Od)
 | mm (max:Bool) (x y:Od)
 | stri (x i:Od)
 | snil (neg:Bool) (x y:Od)
inductive AO where
 | new (e:TypeId) (zero:List SV)
 | box (e:TypeId) (x:Od)
 | bslice (e:TypeId) (size:Nat) (zero:List SV) (len:Nat) (ps:List (Nat×Nat×Od))
 | mkslice (e:TypeId) (size bytes:Nat) (zero:List SV) (l c:Od)
 | load (n:Nat) (agg:Bool) (x:Od)
 | store (n:Nat) (x v:Od)
 | call (f:FuncId) (args:List Od)
 | callv (x:Od) (args:List Od)
 | app (e:TypeId) (size bytes:Nat) (x y:Od)
 | copy (size:Nat) (x y:Od)
 | clear (zero:List SV) (x:Od)
 | mkmap (va:Bool)
 | look (sig:List Bool) (va:Bool) (zero:List SV) (okf:Bool) (x k:Od)
 | mupd (sig:List Bool) (va:Bool) (x k v:Od)
 | slicea (n size:Nat) (x:Od)
 | boxc (size:Nat) (x:Od)
 | peq (neg:Bool) (x y:Od)
 | strop (k:Nat) (x y:Od)
 | bad
inductive IOp where
 | p (o:PO)
 | a (o:AO)
inductive IOper where
 | mk (dst:Option Nat) (op:IOp) (guard:Option (Nat×Bool))
inductive IC where
 | skip
 | region (ops:List IOper)
 | draw (ops:List (IOper×Option (List Nat)))
 | seq (a b:IC)
 | cond (c:Od) (x y:IC)
 | block (id:Nat) (b:IC)
 | loop (b:IC)
 | exit (id:Nat)
 | ret
inductive IR where
 | tmp (g:Nat)
 | cell (g n:Nat) (agg:Bool)
inductive IF where
 | mk (body:IC) (nargs nslots:Nat) (results:List IR)
def ob {α β:Type} (x:Option α) (f:α->Option β):Option β:=Option.rec none f x
def oif {α:Type} (b:Bool) (x y:α):α:=Bool.rec y x b
def je6 {α:Type} (l:List α):Nat->Option α :=
 List.rec (fun _=>none) (fun a _ ih i=>Nat.casesOn i (some a) (fun j=>ih j)) l
def j3w {α:Type} (l:List α):Nat->α->List α :=
 List.rec (fun _ _=>[]) (fun a l ih i x=>Nat.casesOn i (x::l) (fun j=>a::ih j x)) l
def jb9 {α:Type} (n:Nat):List α->List α :=
 Nat.rec (fun l=>l) (fun _ ih l=>List.casesOn l [] (fun _ r=>ih r)) n
def jbp {α:Type} (n:Nat):List α->Option (List α) :=
 Nat.rec (fun _=>some []) (fun _ ih l=>List.casesOn l none (fun a r=>ob (ih r) (fun x=>some (a::x)))) n
def jf8 {α:Type} (l r:List α):List α:=List.rec r (fun a _ ih=>a::ih) l
def jb6 {α:Type} (l:List α):Nat:=List.rec 0 (fun _ _ ih=>Nat.succ ih) l
def jn0 {α:Type} (xs:List α):List α->Option (List α) :=
 List.rec (fun l=>some l) (fun x _ ih l=>List.casesOn l none (fun _ r=>ob (ih r) (fun y=>some (x::y)))) xs
def jbo {α:Type} (n:Nat):List α->List α->Option (List α) :=
 Nat.rec (fun xs l=>jn0 xs l)
  (fun _ ih xs l=>List.casesOn l none (fun a r=>ob (ih xs r) (fun y=>some (a::y)))) n
def ikn (k:IntKind):Nat:=IntKind.casesOn k 0 1 2 3 4 5 6 7
def inR (k:IntKind) (n:Int):Bool :=
 IntKind.casesOn k false false false
  (Int.casesOn n (fun m=>Nat.ble m 9223372036854775807) (fun m=>Nat.ble m 9223372036854775807))
  (Int.casesOn n (fun m=>Nat.ble m 255) (fun _=>false)) false false
  (Int.casesOn n (fun m=>Nat.ble m 18446744073709551615) (fun _=>false))
def ile (a b:Int):Bool :=
 Int.casesOn a (fun m=>Int.casesOn b (fun n=>Nat.ble m n) (fun _=>false)) (fun m=>Int.casesOn b (fun _=>true) (fun n=>Nat.ble n m))
def ieq (a b:Int):Bool :=
 Int.casesOn a (fun m=>Int.casesOn b (fun n=>Nat.beq m n) (fun _=>false)) (fun m=>Int.casesOn b (fun _=>false) (fun n=>Nat.beq m n))
def qps (a b:Int):Int :=
 Int.casesOn a (fun m=>Int.casesOn b (fun n=>Int.ofNat (Nat.add m n)) (fun _=>a+b)) (fun _=>a+b)
def jis (b:Bool):Bool:=Bool.rec true false b
def boN (o:BO):Nat:=BO.casesOn o 0 1 2 3 4 5 6 7 8 9 10 11 12 13 14 15
def qpt (a:Sx):Sx->Bool :=
 Sx.rec
  (fun i b=>Sx.casesOn b (fun j=>Nat.beq i j) (fun _=>false) (fun _ _ _=>false) (fun _ _=>false))
  (fun m b=>Sx.casesOn b (fun _=>false) (fun n=>ieq m n) (fun _ _ _=>false) (fun _ _=>false))
  (fun o _ _ iha ihb b=>Sx.casesOn b (fun _=>false) (fun _=>false) (fun o' a' b'=>oif (Nat.beq (boN o) (boN o')) (oif (iha a') (ihb b') false) false) (fun _ _=>false))
  (fun i m b=>Sx.casesOn b (fun _=>false) (fun _=>false) (fun _ _ _=>false) (fun j n=>oif (Nat.beq i j) (Nat.beq m n) false)) a
def j6a (k:IntKind) (n:Int):Option AV:=oif (inR k n) (some (.s (.int k n))) none
def nn3 (a b:Int) (f g:Nat->Nat->Option AV):Option AV :=
 Int.casesOn a (fun m=>Int.casesOn b (fun n=>f m n) (fun _=>none)) (fun m=>Int.casesOn b (fun n=>g m n) (fun _=>none))
def jn1 (k:IntKind):Bool:=Nat.beq (ikn k) 3
def qc9 (k:IntKind) (n:Int):Option AV:=oif (inR k n) (some (.s (.int k n))) (oif (jn1 k) (some (.s (.int k (IntKind.wrap .i64 n)))) none)
def qp6 (k:IntKind):Bool:=Nat.beq (ikn k) 7
def shk (o:BO):Bool:=BO.casesOn o false false false false false false false false false false false false false false true true
def qhd (k:IntKind) (n:Nat):Bool:=oif (Nat.ble n 7) true (oif (Nat.ble n 63) (oif (jn1 k) true (qp6 k)) false)
def juz (o:BO) (k:IntKind) (a b:Int):Option AV :=
 BO.casesOn o
  (qc9 k (qps a b)) (qc9 k (a - b)) (qc9 k (a*b))
  (oif (ieq b 0) none (j6a k (a.tdiv b))) (oif (ieq b 0) none (j6a k (a.tmod b)))
  (some (.s (.bool (ieq a b)))) (some (.s (.bool (jis (ieq a b))))) (some (.s (.bool (jis (ile b a))))) (some (.s (.bool (ile a b)))) (some (.s (.bool (jis (ile a b))))) (some (.s (.bool (ile b a))))
  (nn3 a b (fun m n=>oif (inR k (.ofNat m)) (oif (inR k (.ofNat n)) (some (.s (.int k (.ofNat (Nat.land m n))))) none) none)
   (fun m n=>oif (jn1 k) (oif (inR k (.negSucc m)) (oif (inR k (.ofNat n)) (some (.s (.int k (.ofNat (Nat.xor n (Nat.land n m)))))) none) none) none))
  (nn3 a b (fun m n=>oif (inR k (.ofNat m)) (oif (inR k (.ofNat n)) (some (.s (.int k (.ofNat (Nat.lor m n))))) none) none)
   (fun m n=>oif (jn1 k) (oif (inR k (.negSucc m)) (oif (inR k (.ofNat n)) (some (.s (.int k (.negSucc (Nat.xor m (Nat.land m n)))))) none) none) none))
  none
  none
  (nn3 a b (fun m n=>oif (qhd k n) (some (.s (.int k (Int.ofNat (Nat.div m (Nat.pow 2 n)))))) none)
   (fun m n=>oif (qhd k n) (some (.s (.int k (Int.negSucc (Nat.div m (Nat.pow 2 n)))))) none))
def j6b (k:IntKind) (n:Int):Option AV :=
 oif (inR k n) (some (.s (.int k n))) (IntKind.casesOn k none none none none
  (Int.casesOn n (fun m=>some (.s (.int .u8 (Int.ofNat (Nat.mod m 256))))) (fun _=>none)) none none none)
def svc {β:Type} (e:Option β) (x:AV) (f:SV->Option β):Option β :=
 AV.casesOn x f (fun _=>none) (fun _=>none) e none
def qda {β:Type} (v:SV) (f:IntKind->Int->Option β):Option β :=
 SV.casesOn (motive_1:=fun _=>Option β) v (fun _=>none) f (fun _=>none) (fun _ _=>none) none (fun _ _ _ _ _ _=>none) none (fun _ _=>none) none none (fun _=>none) (fun _=>none) (fun _=>none) (fun _=>none) none (fun _=>none)
def jk5 {β:Type} (x:AV) (f:IntKind->Int->Option β):Option β:=svc none x (fun v=>qda v f)
def jqi {β:Type} (v:SV) (f:Bool->Option β):Option β :=
 SV.casesOn (motive_1:=fun _=>Option β) v f (fun _ _=>none) (fun _=>none) (fun _ _=>none) none (fun _ _ _ _ _ _=>none) none (fun _ _=>none) none none (fun _=>none) (fun _=>none) (fun _=>none) (fun _=>none) none (fun _=>none)
def jgt {β:Type} (x:AV) (f:Bool->Option β):Option β:=svc none x (fun v=>jqi v f)
def jux {β:Type} (x:AV) (f:Nat->Nat->Option β):Option β :=
 svc none x (fun v=>SV.casesOn (motive_1:=fun _=>Option β) v (fun _=>none) (fun _ _=>none) (fun _=>none) f none (fun _ _ _ _ _ _=>none) none (fun _ _=>none) none none (fun _=>none) (fun _=>none) (fun _=>none) (fun _=>none) none (fun _=>none))
def jit {β:Type} (x:AV) (e:Option β) (f:Nat->Nat->Nat->Nat->Bool->Nat->Option β):Option β :=
 svc none x (fun v=>SV.casesOn (motive_1:=fun _=>Option β) v (fun _=>none) (fun _ _=>none) (fun _=>none) (fun _ _=>none) none f e (fun _ _=>none) none none (fun _=>none) (fun _=>none) (fun _=>none) (fun _=>none) none (fun _=>none))
def jeh {β:Type} (x:AV) (f:Nat->Nat->Option β) (g:List SV->Option β):Option β :=
 svc none x (fun v=>SV.casesOn (motive_1:=fun _=>Option β) v (fun _=>none) (fun _ _=>none) (fun _=>none) f none (fun _ _ _ _ _ _=>none) none (fun _ _=>none) none none (fun _=>none) (fun _=>none) (fun _=>none) g none (fun _=>none))
def jdh {β:Type} (x:AV) (e:Option β) (f:Nat->Nat->Nat->Nat->Bool->Nat->Option β) (g:List (List SV)->Option β) (z:Option β):Option β :=
 svc none x (fun v=>SV.casesOn (motive_1:=fun _=>Option β) v (fun _=>none) (fun _ _=>none) (fun _=>none) (fun _ _=>none) none f e (fun _ _=>none) none none (fun _=>none) (fun _=>none) g (fun _=>none) z (fun _=>none))
def j3x {β:Type} (x:AV) (f:FuncId->List (Nat×Nat)->Option β):Option β :=
 svc none x (fun v=>SV.casesOn (motive_1:=fun _=>Option β) v (fun _=>none) (fun _ _=>none) (fun _=>none) (fun _ _=>none) none (fun _ _ _ _ _ _=>none) none f none none (fun _=>none) (fun _=>none) (fun _=>none) (fun _=>none) none (fun _=>none))
def vSx {β:Type} (v:SV) (f:Sx->Option β):Option β :=
 SV.casesOn (motive_1:=fun _=>Option β) v (fun _=>none) (fun k n=>oif (jn1 k) (f (.lit n)) none) f (fun _ _=>none) none (fun _ _ _ _ _ _=>none) none (fun _ _=>none) none none (fun _=>none) (fun _=>none) (fun _=>none) (fun _=>none) none (fun _=>none)
def rng (l h:Int):Option (Int×Int):=oif (inR .i64 l) (oif (inR .i64 h) (some (l,h)) none) none
def itv (e:Sx):Option (Int×Int) :=
 Sx.rec (fun _=>none) (fun n=>some (n,n))
  (fun o _ _ ia ib=>BO.casesOn o
   (ob ia (fun p=>ob ib (fun q=>rng (qps p.1 q.1) (qps p.2 q.2)))) (ob ia (fun p=>ob ib (fun q=>rng (p.1 - q.2) (p.2 - q.1))))
   none none none none none none none none none none none none none none)
  (fun _ m=>some (.ofNat 0,.ofNat m)) e
def qkf (a b:Sx):Option Bool:=ob (itv a) (fun p=>ob (itv b) (fun q=>oif (ile p.2 q.1) (some true) (oif (ile p.1 q.2) none (some false))))
def qkg (a b:Sx):Bool:=Option.rec (Option.rec false (fun t=>jis t) (qkf b a)) (fun t=>oif t (Option.rec false (fun t=>jis t) (qkf b a)) true) (qkf a b)
def j3y (o:BO) (a b:Sx):Option AV :=
 none
def jel (o:BO) (a b:SV):Option AV :=
 SV.casesOn (motive_1:=fun _=>Option AV) a (fun _=>none)
  (fun k m=>SV.casesOn (motive_1:=fun _=>Option AV) b (fun _=>none) (fun k' n=>oif (Nat.beq (ikn k) (ikn k')) (juz o k m n) (oif (shk o) (juz o k m n) none)) (fun e=>oif (jn1 k) (j3y o (.lit m) e) none)
   (fun _ _=>none) none (fun _ _ _ _ _ _=>none) none (fun _ _=>none) none none (fun _=>none) (fun _=>none) (fun _=>none) (fun _=>none) none (fun _=>none))
  (fun e=>vSx b (fun e'=>j3y o e e'))
  (fun _ _=>none) none (fun _ _ _ _ _ _=>none) none (fun _ _=>none) none none (fun _=>none) (fun _=>none) (fun _=>none) (fun _=>none) none (fun _=>none)
def cel {β:Type} (x:AV) (f:List SV->Option β):Option β :=
 AV.casesOn x (fun v=>f [v]) f (fun _=>none) none none
def jgs (agg:Bool) (cs:List SV):Option AV :=
 Bool.rec (List.casesOn cs none (fun a r=>List.casesOn r (some (.s a)) (fun _ _=>none))) (some (.agg cs)) agg
def ev (st:List AV) (fr:List AV) (o:Od):Option AV :=
 Od.casesOn o (fun i=>je6 st i) (fun i=>je6 fr i) (fun v=>some v)
def jaq (l:List (Nat×Nat)) (n:Nat):Bool :=
 List.rec false (fun p _ ih=>oif (Nat.ble p.1 n) (oif (Nat.ble (Nat.succ n) p.2) true ih) ih) l
def Hp.get (h:Hp) (n:Nat):Option AB:=Hp.casesOn h (fun _ t _ hid=>oif (jaq hid n) none (t.get n))
def Hp.next (h:Hp):Nat:=Hp.casesOn h (fun n _ _ _=>n)
def Hp.tr (h:Hp):Tr AB:=Hp.casesOn h (fun _ t _ _=>t)
def Hp.lo (h:Hp):Nat:=Hp.casesOn h (fun _ _ l _=>l)
def Hp.hid (h:Hp):List (Nat×Nat):=Hp.casesOn h (fun _ _ _ l=>l)
def Hp.put (h:Hp) (b:Nat) (x:Option AB):Hp:=Hp.casesOn h (fun n t lo hid=>.mk n (t.put (Nat.succ b) b x) lo hid)
def rd (h:Hp) (b off n:Nat):Option (List SV) :=
 ob (h.get b) (fun x=>AB.casesOn x (fun cs _=>jbp n (jb9 off cs)) (fun _ _=>none))
def wr (h:Hp) (b off:Nat) (xs:List SV):Option Hp :=
 oif (Nat.ble h.lo b) (ob (h.get b) (fun x=>AB.casesOn x
  (fun cs ty=>ob (jbo off xs cs) (fun cs'=>some (h.put b (some (.arr cs' ty))))) (fun _ _=>none))) none
def nw {β:Type} (h:Hp) (cs:List SV) (ty:TypeId) (f:Nat->Hp->Option β):Option β :=
 Hp.casesOn h (fun n t lo hid=>oif (Nat.ble 0 n) (oif (jaq hid n) none (f n (.mk (Nat.succ n) (t.put (Nat.succ n) n (some (.arr cs ty))) lo hid))) none)
def qpu (isB:Bool) (a b:SV):Option Bool :=
 Bool.rec (qda a (fun k m=>qda b (fun k' n=>oif (Nat.beq (ikn k) (ikn k')) (some (ieq m n)) none))) (jqi a (fun x=>jqi b (fun y=>some (oif x y (jis y))))) isB
def jcu (sig:List Bool):List SV->List SV->Option Bool :=
 List.rec (fun l r=>List.casesOn l (List.casesOn r (some true) (fun _ _=>none)) (fun _ _=>none))
  (fun s _ ih l r=>List.casesOn l none (fun a l=>List.casesOn r none (fun b r=>ob (qpu s a b) (fun x=>ob (ih l r) (fun e=>some (oif x e false)))))) sig
def qdb {β:Type} (agg:Bool) (x:AV) (f:List SV->Option β):Option β :=
 AV.casesOn x (fun v=>oif agg none (f [v])) (fun l=>oif agg (f l) none) (fun _=>none) none none
def kag {α:Type} (l:List α):Bool:=List.casesOn l true (fun _ r=>List.casesOn r false (fun _ _=>true))
def evs (st fr:List AV) (l:List Od):Option (List AV) :=
 List.rec (some []) (fun o _ ih=>ob (ev st fr o) (fun v=>ob ih (fun r=>some (v::r)))) l
def fill (st fr:List AV) (ps:List (Nat×Nat×Od)):List SV->Option (List SV) :=
 List.rec (fun cs=>some cs)
  (fun p _ ih cs=>Prod.casesOn p (fun off q=>Prod.casesOn q (fun n o =>
   ob (ev st fr o) (fun v=>cel v (fun xs=>oif (Nat.beq (jb6 xs) n) (ob (jbo off xs cs) ih) none))))) ps
def rep (l:List SV) (n:Nat):List SV:=Nat.rec [] (fun _ ih=>jf8 l ih) n
def qhe (l:List AV):Option (List (Nat×Nat)) :=
 List.rec (some []) (fun v _ ih=>jux v (fun b o=>ob ih (fun r=>some ((b,o)::r)))) l
def jg5 (l:List (Nat×Nat)):List AV:=List.rec [] (fun p _ ih=>.s (.ptr p.1 p.2)::ih) l
inductive St where
 | mk (fr:List AV) (h:Hp)
inductive Ex where
 | normal
 | exit (id:Nat)
 | ret
abbrev R:=Option (AV×Hp)
def ok (v:AV) (h:Hp):R:=some (v,h)
def q1l (st fr:List AV):Od->Option AV :=
 fun x=>ev st fr x
def qp7 (st fr:List AV):Od->Od->Od->Option AV :=
 fun c a b=>ob (ev st fr c) (fun v=>jgt v (fun t=>ev st fr (oif t a b)))
def qkh (st fr:List AV):List SV->List (Nat×Nat×Od)->Option AV :=
 fun z ps=>ob (fill st fr ps z) (fun cs=>some (.agg cs))
def qva (st fr:List AV):BO->Od->Od->Option AV :=
 fun o x y=>ob (ev st fr x) (fun a=>ob (ev st fr y) (fun b=>svc none a (fun a=>svc none b (fun b=>jel o a b))))
def qvb (st fr:List AV):Bool->Bool->List Bool->Od->Od->Option AV :=
 fun neg agg sig x y=>ob (ev st fr x) (fun a=>ob (ev st fr y) (fun b=>qdb agg a (fun as=>qdb agg b (fun bs=>ob (jcu sig as bs) (fun e=>some (.s (.bool (oif neg (jis e) e))))))))
def qvc (st fr:List AV):Od->Option AV :=
 fun x=>ob (ev st fr x) (fun v=>jgt v (fun b=>some (.s (.bool (jis b)))))
def qvd (st fr:List AV):Od->Option AV :=
 fun x=>ob (ev st fr x) (fun v=>jk5 v (fun k n=>j6a k (-n)))
def qki (st fr:List AV):FuncId->List Od->Option AV :=
 fun f cs=>ob (evs st fr cs) (fun vs=>ob (qhe vs) (fun ps=>some (.s (.func f ps))))
def jr3 (st fr:List AV) (o:Option Od) (e:Nat):Option Nat :=
 Option.casesOn o (some e) (fun o=>ob (ev st fr o) (fun x=>jk5 x (fun _ n=>Int.casesOn n (fun m=>some m) (fun _=>none))))
def jq0 (size:Nat) (r:List (List SV)):Bool:=List.casesOn r true (fun a _=>Nat.beq (jb6 a) size)
def j6c (st fr:List AV):Nat->Od->Option Od->Option Od->Option AV :=
 fun size x lo hi=>ob (ev st fr x) (fun v=>jdh v
  (ob (jr3 st fr hi 0) (fun hi'=>ob (jr3 st fr lo 0) (fun lo'=>oif (Nat.beq (Nat.add hi' lo') 0) (some (.s .nilSlice)) none)))
  (fun b off len mc ex sz=>ob (jr3 st fr hi len) (fun hi'=>ob (jr3 st fr lo 0) (fun lo' =>
   oif (Nat.ble hi' mc) (oif (Nat.ble lo' hi') (oif (Nat.beq sz size) (some (.s (.slice b (Nat.add off (Nat.mul lo' size)) (Nat.sub hi' lo') (Nat.sub mc lo') ex sz))) none) none) none)))
  (fun rows=>ob (jr3 st fr hi (jb6 rows)) (fun hi'=>ob (jr3 st fr lo 0) (fun lo' =>
   oif (Nat.ble hi' (jb6 rows)) (oif (Nat.ble lo' hi') (oif (jq0 size rows) (ob (jbp (Nat.sub hi' lo') (jb9 lo' rows)) (fun r=>some (.s (.lst r)))) none) none) none)))
  (ob (jr3 st fr hi 0) (fun hi'=>ob (jr3 st fr lo 0) (fun lo'=>oif (Nat.beq (Nat.add hi' lo') 0) (some (.s .emp)) none))))
def qve (st fr:List AV):Nat->Od->Option AV :=
 fun off x=>ob (ev st fr x) (fun v=>jeh v (fun b o=>some (.s (.ptr b (Nat.add o off)))) (fun cs=>some (.s (.cp (jb9 off cs)))))
def qp8 (st fr:List AV):Nat->Nat->Bool->Od->Option AV :=
 fun _ _ _ _=>none
def below {β:Type} (w:AV) (n:Nat) (f:Nat->Option β):Option β :=
 jk5 w (fun _ i=>Int.casesOn i (fun m=>oif (Nat.ble (Nat.succ m) n) (f m) none) (fun _=>none))
def qp9 (st fr:List AV):Nat->Nat->Od->Od->Option AV :=
 fun n size x i=>ob (ev st fr x) (fun v=>ob (ev st fr i) (fun w=>jeh v (fun b off=>below w n (fun m=>some (.s (.ptr b (Nat.add off (Nat.mul m size)))))) (fun cs=>below w n (fun m=>some (.s (.cp (jb9 (Nat.mul m size) cs)))))))
def qqa (st fr:List AV):Nat->Od->Od->Option AV :=
 fun size x i=>ob (ev st fr x) (fun v=>ob (ev st fr i) (fun w=>jdh v none (fun b off len _ _ _=>below w len (fun m=>some (.s (.ptr b (Nat.add off (Nat.mul m size))))))
  (fun rows=>below w (jb6 rows) (fun m=>ob (je6 rows m) (fun row=>oif (Nat.beq (jb6 row) size) (some (.s (.cp row))) none))) none))
def qqb (st fr:List AV):Nat->Nat->Bool->Od->Od->Option AV :=
 fun n size agg x i=>ob (ev st fr x) (fun v=>ob (ev st fr i) (fun w=>AV.casesOn v (fun _=>none) (fun cs=>below w n (fun m=>ob (jbp size (jb9 (Nat.mul m size) cs)) (fun cs=>jgs agg cs))) (fun _=>none) none none))
def qvf (st fr:List AV):Nat->Od->Option AV :=
 fun i x=>ob (ev st fr x) (fun v=>AV.casesOn v (fun _=>none) (fun _=>none) (fun l=>ob (je6 l i) (fun p=>jgs p.1 p.2)) none none)
def qqc (st fr:List AV):Od->Option AV :=
 fun x=>ob (ev st fr x) (fun v=>jdh v (some (.s (.int .i64 0))) (fun _ _ n _ _ _=>some (.s (.int .i64 (Int.ofNat n)))) (fun rows=>some (.s (.int .i64 (Int.ofNat (jb6 rows))))) (some (.s (.int .i64 0))))
def qqd (st fr:List AV):IntKind->Od->Option AV :=
 fun k x=>ob (ev st fr x) (fun v=>jk5 v (fun _ n=>j6b k n))
def qqe (st fr:List AV):Od->Option AV :=
 fun x=>ob (ev st fr x) (fun v=>jeh v (fun b o=>some (.s (.ptr b o))) (fun cs=>some (.s (.cp cs))))
def q1m (st fr:List AV):Bool->Od->Od->Option AV :=
 fun mx x y=>ob (ev st fr x) (fun a=>ob (ev st fr y) (fun b=>jk5 a (fun k m=>jk5 b (fun k' n=>oif (Nat.beq (ikn k) (ikn k')) (some (.s (.int k (oif (ile m n) (oif mx n m) (oif mx m n))))) none))))
def qdc (st fr:List AV):Nat->Od->Option Od->Option Od->Option Od->Option AV :=
 fun _ _ _ _ _=>none
def qqf (st fr:List AV):Od->Od->Option AV :=
 fun _ _=>none
def qqg (st fr:List AV):Bool->Od->Od->Option AV :=
 fun _ _ _=>none
def pop (st fr:List AV) (o:PO):Option AV :=
 PO.casesOn o (q1l st fr) (qp7 st fr) (qkh st fr) (qva st fr) (qvb st fr) (qvc st fr) (qvd st fr) (qki st fr) (j6c st fr) (qdc st fr) (qve st fr) (qp8 st fr) (qp9 st fr) (qqa st fr) (qqb st fr) (qvf st fr) (qqc st fr) (qqd st fr) (qqe st fr) (q1m st fr) (qqf st fr) (qqg st fr)
def qqh (h:Hp):TypeId->List SV->R :=
 fun e z=>nw h z e (fun n h=>ok (.s (.ptr n 0)) h)
def qqi (st fr:List AV) (h:Hp):TypeId->Od->R :=
 fun e x=>ob (ev st fr x) (fun v=>cel v (fun cs=>nw h cs e (fun n h=>ok (.s (.ptr n 0)) h)))
def jz2 (st fr:List AV) (h:Hp):TypeId->Nat->List SV->Nat->List (Nat×Nat×Od)->R :=
 fun e size z len ps=>ob (fill st fr ps z) (fun cs=>nw h cs e (fun n h=>ok (.s (.slice n 0 len len true size)) h))
def qhf {β:Type} (v:AV) (f:Nat->Option β):Option β:=jk5 v (fun k n=>oif (jn1 k) (Int.casesOn n f (fun _=>none)) none)
def jgc (st fr:List AV) (h:Hp):TypeId->Nat->Nat->List SV->Od->Od->R :=
 fun e size bytes z l c=>ob (ev st fr l) (fun v=>ob (ev st fr c) (fun u=>qhf v (fun m=>qhf u (fun k=>oif (Nat.ble m k) (oif (Nat.ble (Nat.mul bytes k) 1000000000) (oif (Nat.ble k 1000000000) (nw h (rep z k) e (fun b h=>ok (.s (.slice b 0 m k true size)) h)) none) none) none))))
def jjl (st fr:List AV) (h:Hp):Nat->Bool->Od->R :=
 fun n agg x=>ob (ev st fr x) (fun v=>jeh v (fun b off=>ob (rd h b off n) (fun cs=>ob (jgs agg cs) (fun v=>ok v h))) (fun cs=>ob (jbp n cs) (fun cs=>ob (jgs agg cs) (fun v=>ok v h))))
def jx1 (st fr:List AV) (h:Hp):Nat->Od->Od->R :=
 fun n x v=>ob (ev st fr x) (fun p=>ob (ev st fr v) (fun v=>jux p (fun b off=>cel v (fun cs=>oif (Nat.beq (jb6 cs) n) (ob (wr h b off cs) (fun h=>ok .undef h)) none))))
def qqj (cl:FuncId->List AV->Hp->R) (st fr:List AV) (h:Hp):FuncId->List Od->R :=
 fun f as=>ob (evs st fr as) (fun vs=>cl f vs h)
def qkj (cl:FuncId->List AV->Hp->R) (st fr:List AV) (h:Hp):Od->List Od->R :=
 fun x as=>ob (ev st fr x) (fun v=>j3x v (fun f caps=>ob (evs st fr as) (fun vs=>cl f (jf8 vs (jg5 caps)) h)))
def jla (h:Hp) (e:TypeId) (size b off n m:Nat) (ex:Bool) (new:List SV):R :=
 ob (h.get b) (fun x=>AB.casesOn x (fun cs ty =>
  ob (jbp (Nat.mul n size) (jb9 off cs)) (fun old =>
   Bool.rec
    (oif (Nat.ble h.lo b) (oif (Nat.beq ty e) (nw (h.put b none) (jf8 old new) e (fun k h=>ok (.s (.slice k 0 (Nat.add n m) (Nat.add n m) false size)) h)) none) none)
    (nw h (jf8 old new) e (fun k h=>ok (.s (.slice k 0 (Nat.add n m) (Nat.add n m) false size)) h))
    ex)) (fun _ _=>none))
def jjm (bytes n:Nat) (x:R):R:=oif (Nat.ble (Nat.mul n bytes) 140737488355328) (oif (Nat.ble n 140737488355328) x none) none
def jx2 (size:Nat) (rows:List (List SV)):Option (List SV) :=
 List.rec (some []) (fun a _ ih=>oif (Nat.beq (jb6 a) size) (ob ih (fun r=>some (jf8 a r))) none) rows
def qc3 (v:AV) (x:R):R:=jdh v x (fun _ _ _ _ _ _=>x) (fun _=>x) x
def jlb (h:Hp) (e:TypeId) (size bytes m:Nat) (v:AV) (new:List SV):R :=
 jdh v (Nat.casesOn m (ok v h) (fun _=>jjm bytes m (nw h new e (fun k h=>ok (.s (.slice k 0 m m false size)) h))))
  (fun b off n mc ex sz=>oif (Nat.beq sz size)
  (oif (Nat.ble (Nat.add n m) mc) (ob (wr h b (Nat.add off (Nat.mul n size)) new) (fun h=>ok (.s (.slice b off (Nat.add n m) mc ex sz)) h))
   (jjm bytes (Nat.add n m) (jla h e size b off n m ex new))) none)
  (fun _=>none)
  (Nat.casesOn m (ok v h) (fun _=>jjm bytes m (nw h new e (fun k h=>ok (.s (.slice k 0 m m false size)) h))))
def qkk (st fr:List AV) (h:Hp):TypeId->Nat->Nat->Od->Od->R :=
 fun e size bytes x y=>ob (ev st fr x) (fun v=>ob (ev st fr y) (fun w=>jdh w (qc3 v (ok v h)) (fun b' off' m _ _ _ =>
  ob (rd h b' off' (Nat.mul m size)) (fun new=>jlb h e size bytes m v new))
  (fun rows=>ob (jx2 size rows) (fun new=>jlb h e size bytes (jb6 rows) v new))
  (qc3 v (ok v h))))
def j6d (st fr:List AV) (h:Hp):Nat->Od->Od->R :=
 fun size x y=>ob (ev st fr x) (fun v=>ob (ev st fr y) (fun w=>jdh v (qc3 w (ok (.s (.int .i64 0)) h)) (fun b off n _ _ _=>jdh w (ok (.s (.int .i64 0)) h) (fun b' off' m _ _ _ =>
  ob (rd h b' off' (Nat.mul (oif (Nat.ble n m) n m) size)) (fun cs=>ob (wr h b off cs) (fun h=>ok (.s (.int .i64 (Int.ofNat (oif (Nat.ble n m) n m)))) h)))
   (fun rows=>ob (jx2 size rows) (fun all=>ob (jbp (Nat.mul (oif (Nat.ble n (jb6 rows)) n (jb6 rows)) size) all) (fun cs=>ob (wr h b off cs) (fun h=>ok (.s (.int .i64 (Int.ofNat (oif (Nat.ble n (jb6 rows)) n (jb6 rows))))) h))))
   (ok (.s (.int .i64 0)) h))
  (fun _=>none) (qc3 w (ok (.s (.int .i64 0)) h))))
def qkl (st fr:List AV) (h:Hp):List SV->Od->R :=
 fun _ _=>none
def qkm (h:Hp):Bool->R :=
 fun _=>none
def qqk (st fr:List AV) (h:Hp):List Bool->Bool->List SV->Bool->Od->Od->R :=
 fun _ _ _ _ _ _=>none
def qql (st fr:List AV) (h:Hp):List Bool->Bool->Od->Od->Od->R :=
 fun _ _ _ _ _=>none
def j6e (sz:Nat) (n:Nat):List SV->Option (List (List SV)) :=
 Nat.rec (fun _=>some []) (fun _ ih l=>ob (jbp sz l) (fun a=>ob (ih (jb9 sz l)) (fun r=>some (a::r)))) n
def jmu (st fr:List AV) (h:Hp):Nat->Nat->Od->R :=
 fun n size x=>ob (ev st fr x) (fun v=>jeh v (fun b o=>ob (rd h b o (Nat.mul n size)) (fun _=>ok (.s (.slice b o n n true size)) h)) (fun cs=>ob (j6e size n cs) (fun rows=>ok (.s (.lst rows)) h)))
def grd (v:SV):Bool:=SV.casesOn (motive_1:=fun _=>Bool) v (fun _=>true) (fun _ _=>true) (fun _=>true) (fun _ _=>false) true (fun _ _ _ _ _ _=>false) true (fun _ _=>false) true true (fun _=>false) (fun _=>true) (fun _=>true) (fun _=>false) false (fun _=>false)
def qc4 (l:List SV):Bool:=List.rec true (fun a _ ih=>oif (grd a) ih false) l
def qqm (st fr:List AV) (h:Hp):Nat->Od->R :=
 fun _ _=>none
def qvg (st fr:List AV) (h:Hp):Bool->Od->Od->R :=
 fun _ _ _=>none
def jk6 {β:Type} (v:SV) (f:List UInt8->Option β):Option β :=
 SV.casesOn (motive_1:=fun _=>Option β) v (fun _=>none) (fun _ _=>none) (fun _=>none) (fun _ _=>none) none (fun _ _ _ _ _ _=>none) none (fun _ _=>none) none none (fun _=>none) f (fun _=>none) (fun _=>none) none (fun _=>none)
def j55 (l:List SV):Option (List UInt8) :=
 List.rec (some []) (fun a _ ih=>qda a (fun k n=>oif (Nat.beq (ikn k) 4) (ob ih (fun l=>some (UInt8.ofNat (Int.toNat n)::l))) none)) l
def qhg (v:AV):Option (List UInt8):=jdh v (some []) (fun _ _ _ _ _ _=>none) (fun rows=>ob (jx2 1 rows) j55) (some [])
def j3z (l:List UInt8):List UInt8->Bool :=
 List.rec (fun r=>List.casesOn r true (fun _ _=>false)) (fun a _ ih r=>List.casesOn r false (fun b r=>oif (Nat.beq (UInt8.toNat a) (UInt8.toNat b)) (ih r) false)) l
def qqn {β:Type} (v:SV) (f:Bool->Option β):Option β :=
 SV.casesOn (motive_1:=fun _=>Option β) v (fun _=>none) (fun _ _=>none) (fun _=>none) (fun _ _=>none) none (fun _ _ _ _ _ _=>none) none (fun _ _=>none) none none (fun _=>none) (fun _=>none) (fun _=>none) (fun _=>none) none f
def jx3 (st fr:List AV) (h:Hp) (neg:Bool) (x y:Od):R :=
 ob (ev st fr x) (fun a=>ob (ev st fr y) (fun b=>svc none a (fun a=>svc none b (fun b=>jk6 a (fun l=>jk6 b (fun r=>ok (.s (.bool (oif neg (jis (j3z l r)) (j3z l r)))) h))))))
def jz3 (st fr:List AV) (h:Hp) (x:Od):R:=ob (ev st fr x) (fun a=>svc none a (fun a=>jk6 a (fun l=>oif (Nat.ble (jb6 l) 1000000000) (ok (.s (.int .i64 (Int.ofNat (jb6 l)))) h) none)))
def jq1 (st fr:List AV) (h:Hp) (x y:Od):R :=
 ob (ev st fr x) (fun a=>ob (ev st fr y) (fun b=>svc none a (fun a=>svc none b (fun b=>jk6 a (fun l=>jk6 b (fun r=>oif (Nat.ble (Nat.add (jb6 l) (jb6 r)) 1000000000) (ok (.s (.str (jf8 l r))) h) none))))))
def ju0 (st fr:List AV) (h:Hp) (neg:Bool) (x y:Od):R :=
 ob (ev st fr x) (fun a=>ob (ev st fr y) (fun b=>svc none a (fun a=>svc none b (fun b=>qqn a (fun p=>qqn b (fun q=>oif p (oif q none (ok (.s (.bool neg)) h)) (ok (.s (.bool (oif q neg (jis neg)))) h)))))))
def u8s (l:List UInt8):List SV:=List.rec [] (fun a _ ih=>.int .u8 (Int.ofNat (UInt8.toNat a))::ih) l
def jz4 (st fr:List AV) (h:Hp) (e:TypeId) (x y:Od):R:=ob (ev st fr x) (fun v=>ob (ev st fr y) (fun w=>svc none w (fun w=>jk6 w (fun l=>jlb h e 1 1 (jb6 l) v (u8s l)))))
def jdx (st fr:List AV) (h:Hp):Nat->Od->Od->R :=
 fun k x y=>Nat.casesOn k (ob (ev st fr x) (fun v=>ob (qhg v) (fun l=>ok (.s (.str l)) h)))
  (fun k=>Nat.casesOn k (jx3 st fr h false x y) (fun k=>Nat.casesOn k (jx3 st fr h true x y) (fun k=>Nat.casesOn k (jz3 st fr h x) (fun k=>Nat.casesOn k (jq1 st fr h x y) (fun k=>Nat.casesOn k (ju0 st fr h false x y) (fun k=>Nat.casesOn k (ju0 st fr h true x y) (fun e=>jz4 st fr h e x y)))))))
def aop (cl:FuncId->List AV->Hp->R) (st fr:List AV) (h:Hp) (o:AO):R :=
 AO.casesOn o (qqh h) (qqi st fr h) (jz2 st fr h) (jgc st fr h) (jjl st fr h) (jx1 st fr h) (qqj cl st fr h) (qkj cl st fr h) (qkk st fr h) (j6d st fr h) (qkl st fr h) (qkm h) (qqk st fr h) (qql st fr h) (jmu st fr h) (qqm st fr h) (qvg st fr h) (jdx st fr h) none
def iop (cl:FuncId->List AV->Hp->R) (st fr:List AV) (h:Hp) (o:IOp):R :=
 IOp.casesOn o (fun o=>ob (pop st fr o) (fun v=>ok v h)) (aop cl st fr h)
def jc0 (fr:List AV) (dst:Option Nat) (v:AV):List AV:=Option.rec fr (fun d=>j3w fr d v) dst
def j6f (st:List AV) (g:Option (Nat×Bool)):Option Bool :=
 Option.rec (some true) (fun p=>ob (je6 st p.1) (fun v=>svc (some false) v (fun s=>jqi s (fun b=>some (oif p.2 b (jis b)))))) g
def qdd (cl:FuncId->List AV->Hp->R) (st fr:List AV) (h:Hp) (op:IOp) (g:Option (Nat×Bool)):R :=
 ob (j6f st g) (fun b=>Bool.rec (ok .undef h) (iop cl st fr h op) b)
def jz5 (cl:FuncId->List AV->Hp->R) (l:List IOper):List AV->List AV->Hp->Option St :=
 List.rec (fun _ fr h=>some (.mk fr h))
  (fun o _ ih st fr h=>IOper.casesOn o (fun dst op g=>ob (qdd cl st fr h op g) (fun p=>ih (p.1::st) (jc0 fr dst p.1) p.2))) l
inductive Ent where
 | mk (iv:List (Nat×Nat)) (fp:Option (List Nat))
inductive Cls where
 | fresh
 | load (x:Nat)
 | app (b:Nat)
 | quiet
 | other
def jr4 {α:Type} (x:Option α) (f:α->Cls):Cls:=Option.rec .other f x
def jca (st fr:List AV) (op:IOp):Cls :=
 IOp.casesOn op (fun _=>.fresh) (fun o=>AO.casesOn o (fun _ _=>.fresh) (fun _ _=>.fresh) (fun _ _ _ _ _=>.fresh) (fun _ _ _ _ _ _=>.fresh)
  (fun _ _ x=>jr4 (ob (ev st fr x) (fun v=>jeh v (fun b _=>some (Cls.load b)) (fun _=>some .quiet))) (fun c=>c)) (fun _ x _=>jr4 (ob (ev st fr x) (fun v=>jux v (fun b _=>some b))) .app) (fun _ _=>.other) (fun _ _=>.other)
  (fun _ _ _ x _=>jr4 (ob (ev st fr x) (fun v=>jit v none (fun b _ _ _ _ _=>some b))) .app) (fun _ _ _=>.other) (fun _ _=>.other) (fun _=>.other) (fun _ _ _ _ _ _=>.other) (fun _ _ _ _ _=>.other) (fun _ _ _=>.other) (fun _ _=>.quiet) (fun _ _ _=>.other) (fun _ _ _=>.other) .other)
def sel (es:List Ent) (js:List Nat) (hid:List (Nat×Nat)):Option (List (Nat×Nat)) :=
 List.rec (some hid) (fun j _ ih=>ob (je6 es j) (fun e=>ob ih (fun l=>Ent.casesOn e (fun iv _=>some (jf8 iv l))))) js
def j6g (b:Nat) (l:List Nat):Bool:=List.rec true (fun n _ ih=>oif (Nat.beq n b) false ih) l
def jjn (es:List Ent) (js:List Nat) (b:Nat):Bool :=
 List.rec true (fun j _ ih=>Option.rec false (fun e=>Ent.casesOn e (fun _ fp=>Option.rec false (fun ns=>oif (j6g b ns) ih false) fp)) (je6 es j)) js
inductive DR where
 | mk (v:AV) (h:Hp) (e:Ent)
def jmm (cl:FuncId->List AV->Hp->R) (st fr:List AV) (n:Nat) (t:Tr AB) (lo lo':Nat) (hid hid':List (Nat×Nat)) (op:IOp) (e:Nat->Ent):Option DR :=
 ob (iop cl st fr (.mk n t lo' hid') op) (fun p=>Hp.casesOn p.2 (fun n' t' _ _=>some (.mk p.1 (.mk n' t' lo hid) (e n'))))
def jma (cl:FuncId->List AV->Hp->R) (st fr:List AV) (es:List Ent) (h:Hp) (op:IOp) (js:List Nat):Option DR :=
 Hp.casesOn h (fun n t lo hid=>ob (sel es js hid) (fun hid' =>
  Cls.casesOn (jca st fr op)
   (jmm cl st fr n t lo n hid hid' op (fun n'=>.mk [(n,n')] (some [])))
   (fun x=>jmm cl st fr n t lo n hid hid' op (fun _=>.mk [] (some [x])))
   (fun b=>oif (jjn es js b) (oif (Nat.ble lo b) (ob (Hp.get (.mk n t lo hid') b) (fun _=>jmm cl st fr n t lo lo hid hid' op (fun n'=>.mk [(b,Nat.succ b),(n,n')] none))) none) none)
   (jmm cl st fr n t lo n hid hid' op (fun _=>.mk [] (some [])))
   (jmm cl st fr n t lo n hid hid' op (fun n'=>.mk [(n,n')] none))))
def jxw (cl:FuncId->List AV->Hp->R) (st fr:List AV) (es:List Ent) (h:Hp) (op:IOp) (g:Option (Nat×Bool)) (m:Option (List Nat)):Option DR :=
 ob (j6f st g) (fun b=>Bool.rec (some (.mk .undef h (.mk [] (some []))))
  (Option.rec (ob (iop cl st fr h op) (fun p=>some (.mk p.1 p.2 (.mk [] (some []))))) (jma cl st fr es h op) m) b)
def jx4 (cl:FuncId->List AV->Hp->R) (l:List (IOper×Option (List Nat))):List AV->List Ent->List AV->Hp->Option St :=
 List.rec (fun _ _ fr h=>some (.mk fr h))
  (fun o _ ih st es fr h=>IOper.casesOn o.1 (fun dst op g=>ob (jxw cl st fr es h op g o.2) (fun p=>DR.casesOn p (fun v h' e=>ih (v::st) (e::es) (jc0 fr dst v) h')))) l
def jmn (fr:List AV) (h:Hp) (r:IR):Option (Bool×List SV) :=
 IR.casesOn r
  (fun g=>ob (je6 fr g) (fun v=>AV.casesOn v (fun s=>some (false,[s])) (fun l=>some (true,l)) (fun _=>none) none none))
  (fun g n agg=>ob (je6 fr g) (fun v=>jux v (fun b off=>ob (rd h b off n) (fun cs=>some (agg,cs)))))
def jfu (fr:List AV) (h:Hp) (l:List IR):Option (List (Bool×List SV)) :=
 List.rec (some []) (fun r _ ih=>ob (jmn fr h r) (fun v=>ob ih (fun x=>some (v::x)))) l
def jcj (s:St) (l:List IR):R :=
 St.casesOn s (fun fr h=>ob (jfu fr h l) (fun vs=>List.casesOn vs (ok (.tup []) h) (fun p r=>List.casesOn r (ob (jgs p.1 p.2) (fun v=>ok v h)) (fun _ _=>ok (.tup vs) h))))
def jdq (n:Nat):List AV:=Nat.rec [] (fun _ ih=>.undef::ih) n
abbrev RC:=IC->St->Option (Ex×St)
inductive Fns where
 | mk (T:FuncId->Option IF) (X:FuncId->List AV->Hp->R)
def jbv (F:Fns) (ih:RC) (f:FuncId) (vs:List AV) (h:Hp):R :=
 Fns.casesOn F (fun T X=>Option.rec
  (ob (T f) (fun fn=>IF.casesOn fn (fun body nargs nslots res=>oif (Nat.beq (jb6 vs) nargs) (ob (ih body (.mk (jf8 vs (jdq nslots)) h)) (fun p =>
   Ex.casesOn p.1 (jcj p.2 res) (fun _=>none) (jcj p.2 res))) none)))
  (fun r=>some r) (X f vs h))
def qde (F:Fns) (ih:RC) (s:St) (ops:List IOper):Option (Ex×St):=St.casesOn s (fun fr h=>ob (jz5 (jbv F ih) ops [] fr h) (fun s=>some (.normal,s)))
def qqo (F:Fns) (ih:RC) (s:St) (ops:List (IOper×Option (List Nat))):Option (Ex×St):=St.casesOn s (fun fr h=>ob (jx4 (jbv F ih) ops [] [] fr h) (fun s=>some (.normal,s)))
def qvh (ih:RC) (s:St) (a b:IC):Option (Ex×St):=ob (ih a s) (fun p=>Ex.casesOn p.1 (ih b p.2) (fun _=>some p) (some p))
def qqp (ih:RC) (s:St) (c:Od) (x y:IC):Option (Ex×St):=St.casesOn s (fun fr _=>ob (ev [] fr c) (fun v=>jgt v (fun t=>ih (oif t x y) s)))
def qkn (ih:RC) (s:St) (id:Nat) (b:IC):Option (Ex×St):=ob (ih b s) (fun p=>Ex.casesOn p.1 (some p) (fun k=>oif (Nat.beq k id) (some (.normal,p.2)) (some p)) (some p))
def qqq (ih:RC) (s:St) (b:IC):Option (Ex×St):=ob (ih b s) (fun p=>Ex.casesOn p.1 (ih (.loop b) p.2) (fun _=>some p) (some p))
def qqr (s:St) (id:Nat):Option (Ex×St):=some (.exit id,s)
def jz6 (F:Fns) (ih:RC) (c:IC) (s:St):Option (Ex×St) :=
 IC.casesOn c (some (.normal,s)) (qde F ih s) (qqo F ih s) (qvh ih s) (qqp ih s) (qkn ih s) (qqq ih s) (qqr s) (some (.ret,s))
def run (F:Fns) (n:Nat):RC :=
 Nat.rec (fun _ _=>none) (fun _ ih=>jz6 F ih) n
def jn2 (F:Fns) (n:Nat) (f:FuncId) (vs:List AV) (h:Hp):R:=jbv F (run F n) f vs h
def sv1:SV->Value->Bool
 | .int k n,.int k' m=>Nat.beq k.ctorIdx k'.ctorIdx&&(n == m)
 | .str l,.string b=>l == b.data.toList
 | _,_=>false
def qpv:List SV->List Value->Bool
 | [],_=>true
 | s::l,v::r=>sv1 s v&&qpv l r
 | _::_,[]=>false
def qko (g:Nat):Option (List SV) :=
 oif (Nat.beq g 0) (some [.str [],.str [117,115,101],.str [100,101,102]])
  (oif (Nat.beq g 1) (some [.str [],.str [97,110,121],.str [114,101,103],.str [115,116,97,99,107],.str [102,105,120,101,100],.str [114,101,117,115,101]]) none)
def q1n (k:Nat->Option (Array Value)):Prop :=
 (∃ (m:Int) (cs:Array Value),k 2=some cs/\cs[0]?=some (.int .i64 m)) /\
 k 3=some (Lib.pow10Tab.map fun z=>Value.int .u64 z).toArray /\
 (∃ (cs:Array Value) (v:Value),k 4=some cs/\cs[0]?=some v/\(v=.nilIface∨∃ t p,v=.iface t p)) /\
 (∃ (cs:Array Value) (v:Value),k 5=some cs/\cs[0]?=some v/\(v=.nilIface∨∃ t p,v=.iface t p))
class GK (k:Nat->Option (Array Value)):Prop where
 con:∀ g cells,qko g=some cells->∃ cs,k g=some cs/\qpv cells cs.toList=true
 ext:q1n k
theorem GK.mono {k k':Nat->Option (Array Value)} (h:∀ b cs,k b=some cs->k' b=some cs) (g:GK k):GK k' where
 con:=fun g' cells e=>by
  obtain⟨cs,h1,h2⟩:=g.con g' cells e
  exact⟨cs,h _ _ h1,h2⟩
 ext:=by
  obtain⟨⟨m,a,h1,h2⟩,h3,⟨c,v,h5,h6⟩,⟨d,u,h7,h8⟩⟩:=g.ext
  exact⟨⟨m,a,h _ _ h1,h2⟩,h _ _ h3,⟨c,v,h _ _ h5,h6⟩,⟨d,u,h _ _ h7,h8⟩⟩
inductive TK where
 | int (k:IntKind)
 | bool
 | slice (e:TypeId)
 | array (n:Nat) (e:TypeId)
 | struct (fs:List (Nat×TypeId))
 | map (k e:TypeId)
 | ptr (e:TypeId)
 | str
 | ifc
 | other
structure TI where
 size:Nat
 bytes:Nat
 agg:Bool
 zero:List SV
 kind:TK
 eq:Option (List Bool)
def jjo (t:Tr TI) (k:Nat):Option TI:=t.get (k+1)
def idx (x:Nat):List Nat->Nat->Option Nat
 | [],_=>none
 | a::l,i=>bif Nat.beq a x then some i else idx x l (i+1)
def jmv (x:Nat):List (Option Nat)->Nat->Option Nat
 | [],_=>none
 | some a::l,i=>bif Nat.beq a x then some i else jmv x l (i+1)
 | none::l,i=>jmv x l (i+1)
def jq2:Value->Option AV
 | .bool b=>some (.s (.bool b))
 | .int k n=>some (.s (.int k n))
 | .pointer none=>some (.s .nilPtr)
 | .slice none 0 0=>some (.s .nilSlice)
 | .nilFunc=>some (.s .nilFunc)
 | .nilIface=>some (.s (.ifc false))
 | .map none=>some (.s .nilMap)
 | .string s=>some (.s (.str s.data.toList))
 | _=>none
def cO (π:List Nat) (loc:List (Option Nat)):Operand->Option Od
 | .tmp t=>match jmv t loc 0 with
  | some i=>some (.l i)
  | none=>match idx t π 0 with
   | some j=>some (.g j)
   | none=>none
 | .const v=>(jq2 v).map .c
 | .func f=>some (.c (.s (.func f [])))
 | .global g=>match qko g with
  | some cs=>some (.c (.s (.cp cs)))
  | none=>none
def cOs (π:List Nat) (loc:List (Option Nat)):List Operand->Option (List Od)
 | []=>some []
 | o::r=>match cO π loc o,cOs π loc r with
  | some x,some l=>some (x::l)
  | _,_=>none
def cOo (π:List Nat) (loc:List (Option Nat)):Option Operand->Option (Option Od)
 | none=>some none
 | some o=>(cO π loc o).map some
def jhh (π:List Nat) (loc:List (Option Nat)) (place:Nat->Option (Nat×Nat)):List (Nat×Operand)->Option (List (Nat×Nat×Od))
 | []=>some []
 | (i,o)::r=>match place i,cO π loc o,jhh π loc place r with
  | some (off,n),some x,some l=>some ((off,n,x)::l)
  | _,_,_=>none
def qvi:BinOp->Option BO
 | .add=>some .add | .sub=>some .sub | .mul=>some .mul | .quo=>some .quo | .rem=>some .rem
 | .eql=>some .eq | .neq=>some .ne | .lss=>some .lt | .leq=>some .le | .gtr=>some .gt | .geq=>some .ge | .and=>some .and | .or=>some .or | .andNot=>some .andNot | .shl=>some .shl | .shr=>some .shr
 | _=>none
def qpw:BinOp->Option Bool
 | .eql=>some false | .neq=>some true | _=>none
def ti1 (z:TI):Bool:=z.agg||Nat.beq z.size 1
def jbw (T:Tr TI) (t:TypeId):Option (TypeId×TI):=match jjo T t with
 | some ti=>match ti.kind with
  | .slice e=>match jjo T e with
   | some z=>bif Nat.beq z.size 0 then none else some (e,z)
   | none=>none
  | _=>none
 | none=>none
def jmw (T:Tr TI) (t:TypeId) (f:Nat):Option (Nat×TI):=match jjo T t with
 | some ti=>match ti.kind with
  | .struct fs=>match fs[f]? with
   | some p=>match jjo T p.2 with
    | some z=>bif Nat.beq z.size 0 then none else some (p.1,z)
    | none=>none
   | none=>none
  | _=>none
 | none=>none
def jlc (T:Tr TI) (t:TypeId):Option (Nat×TI):=match jjo T t with
 | some ti=>match ti.kind with
  | .array n e=>match jjo T e with
   | some z=>bif Nat.beq z.size 0 then none else some (n,z)
   | none=>none
  | _=>none
 | none=>none
def j6h:TK->Bool
 | .struct _=>true
 | _=>false
def qkp (T:Tr TI) (t:TypeId):Option (List Bool×TI):=match jjo T t with
 | some ti=>match ti.kind with
  | .map k e=>match jjo T k,jjo T e with
   | some q,some z=>bif ti1 z then (match q.kind with
    | .int _=>some ([false],z)
    | _=>match q.eq with
     | some s=>bif q.agg&&(kag s&&j6h q.kind) then some (s,z) else none
     | none=>none) else none
   | _,_=>none
  | _=>none
 | none=>none
def jz7 (T:Tr TI) (t:TypeId):Bool:=match jjo T t with
 | some ti=>match ti.kind with
  | .ptr e=>match jjo T e with
   | some z => !(Nat.beq z.size 0)
   | none=>false
  | _=>false
 | none=>false
def jz8 (T:Tr TI) (t:TypeId):Bool:=match jjo T t with
 | some ti=>match ti.kind with
  | .int _=>true
  | _=>false
 | none=>false
def jc2 (T:Tr TI) (t:TypeId):Bool:=match jjo T t with
 | some ti=>match ti.kind with
  | .str=>true
  | _=>false
 | none=>false
def jn3:Od->Bool
 | .c (.s (.ifc false))=>true
 | _=>false
def jn4 (T:Tr TI) (t:TypeId):Bool:=match jjo T t with
 | some ti=>match ti.kind with
  | .ifc=>true
  | _=>false
 | none=>false
def jed (T:Tr TI) (t:TypeId):Bool:=match jbw T t with
 | some z=>match z.2.kind with
  | .int k=>Nat.beq (ikn k) 4
  | _=>false
 | none=>false
def qvj (T:Tr TI) (t:TypeId):Option (Bool×List Bool):=match jjo T t with
 | some ti=>ti.eq.map fun s=>(ti.agg,s)
 | none=>none
def qvk (T:Tr TI) (t u:TypeId) (x y:Od):Option IOp:=match jbw T t with
 | some z=>bif Nat.beq z.1 bT then none else bif Nat.beq t u then some (.a (.app z.1 z.2.size z.2.bytes x y)) else bif jc2 T u&&jed T t&&Nat.beq z.2.size 1&&Nat.beq z.2.bytes 1 then some (.a (.strop (z.1+7) x y)) else none
 | none=>none
theorem jjp {T:Tr TI} {t u:TypeId} {x y:Od} {io:IOp} (h:qvk T t u x y=some io):∃ z,jbw T t=some z/\z.1≠bT /\
 ((t=u/\io=.a (.app z.1 z.2.size z.2.bytes x y))∨(jc2 T u=true/\jed T t=true/\z.2.size=1/\z.2.bytes=1/\io=.a (.strop (z.1+7) x y))):=by
 unfold qvk at h
 split at h
 .rename_i z hz
  cases hb:Nat.beq z.1 bT with
  | true=>grind
  | false =>
   rw[hb] at h
   have hne:z.1≠bT:=fun e=>by simp_all
   refine⟨z,hz,hne,?_⟩
   cases ht:Nat.beq t u with
   | true=>simp_all
   | false =>
    rw[ht] at h
    simp only[cond_false] at h
    cases hq:(jc2 T u&&jed T t&&Nat.beq z.2.size 1&&Nat.beq z.2.bytes 1) with
    | false=>rw[hq] at h;cases h
    | true =>
     rw[hq] at h
     cases h
     simp only[f05] at hq
     exact .inr ⟨hq.1.1.1,hq.1.1.2,f0k hq.1.2,f0k hq.2,rfl⟩
 grind
def j6i (T:Tr TI) (π:List Nat) (loc:List (Option Nat)) (c:Call):Option IOp :=
 match cOs π loc c.args.toList with
  | some as=>match c.callee with
   | .value (.func f)=>some (.a (.call f as))
   | .value x=>(cO π loc x).map fun x=>.a (.callv x as)
   | .builtin b=>match b,as with
    | .len,[x]=>match c.argTypes[0]? with
     | some t=>bif jc2 T t then some (.a (.strop 3 x x)) else (jbw T t).map fun _=>.p (.len x)
     | none=>none
    | .max,[x,y]=>some (.p (.mm true x y))
    | .min,[x,y]=>some (.p (.mm false x y))
    | .copy,[x,y]=>match c.argTypes[0]? with
     | some t=>(jbw T t).map fun z=>.a (.copy z.2.size x y)
     | none=>none
    | .clear,[x]=>match c.argTypes[0]? with
     | some t=>(jbw T t).map fun z=>.a (.clear z.2.zero x)
     | none=>none
    | .append,[x,y]=>match c.argTypes.toList with
     | [t,u]=>qvk T t u x y
     | _=>none
    | _,_=>some (.a .bad)
   | _=>some (.a .bad)
  | none=>none
def cOp (T:Tr TI) (π:List Nat) (loc:List (Option Nat)):Op->Option IOp
 | .move x=>(cO π loc x).map fun x=>.p (.mv x)
 | .assign x=>(cO π loc x).map fun x=>.p (.mv x)
 | .pick c a b=>match cO π loc c,cO π loc a,cO π loc b with
  | some c,some a,some b=>some (.p (.pick c a b))
  | _,_,_=>none
 | .alloc e=>(jjo T e).map fun t=>.a (.new e t.zero)
 | .box e x=>(cO π loc x).map fun x=>.a (.box e x)
 | .build t ps=>match jjo T t with
  | some ti=>match ti.kind with
   | .struct fs=>(jhh π loc (fun i=>match fs[i]? with | some (off,e)=>(jjo T e).map fun z=>(off,z.size) | none=>none) ps.toList).map fun x=>.p (.build ti.zero x)
   | .array _ e=>match jjo T e with
    | some z=>(jhh π loc (fun i=>some (i*z.size,z.size)) ps.toList).map fun x=>.p (.build ti.zero x)
    | none=>none
   | _=>none
  | none=>none
 | .buildSlice t len ps=>match jbw T t with
  | some z=>bif Nat.ble (len*z.2.size) 16777216 then (jhh π loc (fun i=>some (i*z.2.size,z.2.size)) ps.toList).map fun x=>.a (.bslice z.1 z.2.size (rep z.2.zero len) len x) else none
  | none=>none
 | .load t x=>match jjo T t,cO π loc x with
  | some ti,some x=>bif ti1 ti then some (.a (.load ti.size ti.agg x)) else none
  | _,_=>none
 | .store t x v=>match jjo T t,cO π loc x,cO π loc v with
  | some ti,some x,some v=>some (.a (.store ti.size x v))
  | _,_,_=>none
 | .binOp op t x y _=>match cO π loc x,cO π loc y with
  | some x,some y=>bif jz8 T t then (qvi op).map fun o=>.p (.bin o x y) else bif (jbw T t).isSome then (qpw op).map fun n=>.p (.snil n x y) else match qpw op,qvj T t with
   | some n,some q=>some (.p (.eqv n q.1 q.2 x y))
   | some n,none=>bif jz7 T t then some (.a (.peq n x y)) else bif jc2 T t then some (.a (.strop (bif n then 2 else 1) x y)) else bif jn4 T t&&jn3 y then some (.a (.strop (bif n then 6 else 5) x y)) else none
   | none,_=>match op with
    | .add=>bif jc2 T t then some (.a (.strop 4 x y)) else none
    | _=>none
  | _,_=>none
 | .unOp .not _ x=>(cO π loc x).map fun x=>.p (.not x)
 | .unOp .neg _ x=>(cO π loc x).map fun x=>.p (.neg x)
 | .makeFunc (.func f) fst caps=>bif Nat.beq fst.size 0 then (cOs π loc caps.toList).map fun x=>.p (.mkfun f x) else none
 | .convert s d x=>match jjo T s,jjo T d,cO π loc x with
  | some _,some ti,some x=>match ti.kind with
   | .int k=>some (.p (.conv k x))
   | .str=>bif jed T s then some (.a (.strop 0 x x)) else none
   | _=>none
  | _,_,_=>none
 | .nilCheck x=>(cO π loc x).map fun x=>.p (.nchk x)
 | .makeSlice t l c=>match jbw T t,cO π loc l,cO π loc c with
  | some z,some l,some c=>some (.a (.mkslice z.1 z.2.size z.2.bytes z.2.zero l c))
  | _,_,_=>none
 | .slice t x lo hi none=>match jbw T t,cO π loc x,cOo π loc lo,cOo π loc hi with
  | some z,some x,some lo,some hi=>some (.p (.slice z.2.size x lo hi))
  | none,some x,some none,some none=>(jlc T t).map fun z=>.a (.slicea z.1 z.2.size x)
  | _,_,_,_=>none
 | .slice t x lo (some hi) (some mx)=>match jbw T t,cO π loc x,cOo π loc lo,cOo π loc (some hi),cOo π loc (some mx) with
  | some z,some x,some lo,some hi,some mx=>some (.p (.slice3 z.2.size x lo hi mx))
  | _,_,_,_,_=>none
 | .fieldAddr t x f=>match jmw T t f,cO π loc x with
  | some p,some x=>some (.p (.fld p.1 x))
  | _,_=>none
 | .field t x f=>match jmw T t f,cO π loc x with
  | some p,some x=>bif ti1 p.2 then some (.p (.fval p.1 p.2.size p.2.agg x)) else none
  | _,_=>none
 | .indexAddr t x i=>match jbw T t,jlc T t,cO π loc x,cO π loc i with
  | some z,_,some x,some i=>some (.p (.ixs z.2.size x i))
  | none,some z,some x,some i=>some (.p (.ixa z.1 z.2.size x i))
  | _,_,_,_=>none
 | .index t x i=>bif jc2 T t then (match cO π loc x,cO π loc i with
  | some x,some i=>some (.p (.stri x i))
  | _,_=>none) else match jlc T t,cO π loc x,cO π loc i with
  | some z,some x,some i=>bif ti1 z.2 then some (.p (.ival z.1 z.2.size z.2.agg x i)) else none
  | _,_,_=>none
 | .extract x i=>(cO π loc x).map fun x=>.p (.ext i x)
 | .call c=>j6i T π loc c
 | .makeMap t none=>(qkp T t).map fun z=>.a (.mkmap z.2.agg)
 | .lookup t x k okf=>match qkp T t,cO π loc x,cO π loc k with
  | some z,some x,some k=>some (.a (.look z.1 z.2.agg z.2.zero okf x k))
  | _,_,_=>none
 | .mapUpdate t x k v=>match qkp T t,cO π loc x,cO π loc k,cO π loc v with
  | some z,some x,some k,some v=>some (.a (.mupd z.1 z.2.agg x k v))
  | _,_,_,_=>none
 | _=>some (.a .bad)
def jn5 (loc:List (Option Nat)) (k:Nat):Option (Nat×Bool)->Option (Option (Nat×Bool))
 | none=>some none
 | some (j,b)=>bif Nat.blt j k then match loc[k - 1 - j]? with
  | some (some d)=>match jmv d loc 0 with
   | some i=>bif Nat.beq i (k - 1 - j) then some (some (i,b)) else none
   | none=>none
  | _=>none else none
def jr5 (nt:Nat):Option Nat->Bool
 | none=>true
 | some d=>Nat.blt d nt
def jmx (π:List Nat):Option Nat->Option Nat
 | none=>none
 | some d=>idx d π 0
def j30 (T:Tr TI) (π:List Nat) (nt:Nat) (loc:List (Option Nat)) (k:Nat) (o:Oper):Option IOper :=
 bif jr5 nt o.dst then match cOp T π loc o.op,jn5 loc k o.guard with
  | some op,some g=>some (.mk (jmx π o.dst) op g)
  | _,_=>none else none
def jld (T:Tr TI) (π:List Nat) (nt:Nat):List (Option Nat)->Nat->List Oper->Option (List IOper)
 | _,_,[]=>some []
 | loc,k,o::r=>match j30 T π nt loc k o,jld T π nt (o.dst::loc) (k+1) r with
  | some op,some l=>some (op::l)
  | _,_=>none
inductive KC where
 | alloc (t:Nat) (e:TypeId)
 | box (t:Nat) (e:TypeId) (x:Operand)
 | norm
def tb (m n:Nat):Bool:=Nat.beq (Nat.land (Nat.shiftRight m n) 1) 1
def ju1 (ms:List Nat) (k:Nat):List Edge->Nat->Option Nat
 | [],acc=>some acc
 | e::r,acc=>bif Region.binds .any e then (bif Nat.blt e.on k then match ms[k - 1 - e.on]? with
  | some m=>ju1 ms k r (Nat.lor (Nat.lor acc (Nat.shiftLeft 1 e.on)) m)
  | none=>none else none) else ju1 ms k r acc
def jhi (loc:List (Option Nat)) (k m:Nat):List Operand->Bool
 | []=>true
 | .tmp t::r=>(match jmv t loc 0 with
  | some i=>tb m (k - 1 - i)
  | none=>true)&&jhi loc k m r
 | _::r=>jhi loc k m r
def jn6:List Operand->List Nat
 | []=>[]
 | .tmp t::r=>t::jn6 r
 | _::r=>jn6 r
def qup (x:Nat):List Nat->Bool
 | []=>false
 | a::l=>Nat.beq a x||qup x l
def qdf:List (List Nat)->Nat
 | []=>0
 | _::l=>qdf l+1
def quq (d m:Nat):List (List Nat)->Bool
 | []=>true
 | r::l=>(!(qup d r)||tb m (qdf l))&&quq d m l
def qkq (rds:List (List Nat)) (m:Nat):Option Nat->Bool
 | none=>true
 | some d=>quq d m rds
def jx5 (m:Nat):Option (Nat×Bool)->Bool
 | none=>true
 | some (j,_)=>tb m j
def ju2 (loc:List (Option Nat)):Option Nat->Bool
 | none=>true
 | some d=>match jmv d loc 0 with | some _=>false | none=>true
def jr6 (o:IOper):Bool:=IOper.casesOn o (fun _ op _=>IOp.casesOn op (fun _=>false) (fun _=>true))
def qqs (T:Tr TI) (π:List Nat) (nt:Nat):List (Option Nat)->List (List Nat)->List Nat->Nat->Nat->List Oper->Option (List (IOper×Bool×Nat))
 | _,_,_,_,_,[]=>some []
 | loc,rds,ms,j4e,k,o::r=>match j30 T π nt loc k o,ju1 ms k o.after.toList 0 with
  | some op,some m=>bif jhi loc k m o.op.operands.toList&&(jx5 m o.guard&&(ju2 loc o.dst&&qkq rds m o.dst)) then
   match qqs T π nt (o.dst::loc) (jn6 o.op.operands.toList::rds) (m::ms) (bif jr6 op then Nat.lor j4e (Nat.shiftLeft 1 k) else j4e) (k+1) r with
   | some l=>some ((op,jr6 op,Nat.xor j4e (Nat.land j4e m))::l)
   | none=>none else none
  | _,_=>none
def jhj (un:Nat):Nat->Nat->List Nat
 | 0,_=>[]
 | i+1,o=>bif tb un i then o::jhj un i (o+1) else jhj un i (o+1)
def qkr:Nat->List (IOper×Bool×Nat)->List (IOper×Option (List Nat))×Bool
 | _,[]=>([],false)
 | k,(op,act,un)::r=>match qkr (k+1) r with
  | (l,b)=>match b||(act && !(Nat.beq un 0)) with
   | b'=>((op,bif act&&b' then some (jhj un k 0) else none)::l,b')
def j6j (T:Tr TI) (π:List Nat) (nt:Nat) (ops:List Oper):Option (List (IOper×Option (List Nat))) :=
 match qqs T π nt [] [] [] 0 0 ops with
 | some l=>some (qkr 0 l).1
 | none=>none
def jgu (T:Tr TI) (cb π:List Nat) (nt:Nat):Code->Option IC
 | .skip=>some .skip
 | .region _ ops false=>(jld T π nt [] 0 ops.toList).map .region
 | .region _ ops true=>(j6j T π nt ops.toList).map .draw
 | .seq a b=>match jgu T cb π nt a,jgu T cb π nt b with
  | some x,some y=>some (.seq x y)
  | _,_=>none
 | .cond c a b=>match cO π [] c,jgu T cb π nt a,jgu T cb π nt b with
  | some c,some x,some y=>some (.cond c x y)
  | _,_,_=>none
 | .block id b=>(jgu T cb π nt b).map (.block id)
 | .loop b=>(jgu T cb π nt b).map .loop
 | .exit id=>some (.exit id)
 | .ret=>some .ret
 | _=>none
def qc5 (T:Tr TI) (π:List Nat):List ResultVar->Option (List IR)
 | []=>some []
 | .tmp t::r=>match idx t π 0,qc5 T π r with
  | some j,some l=>some (.tmp j::l)
  | _,_=>none
 | .cell t ty::r=>match idx t π 0,jjo T ty,qc5 T π r with
  | some j,some ti,some l=>bif ti1 ti then some (.cell j ti.size ti.agg::l) else none
  | _,_,_=>none
def qvl (na:Nat) (acc:List Nat) (t:Nat):List Nat:=bif Nat.blt t na then acc else match idx t acc 0 with | some _=>acc | none=>t::acc
def rdO (na:Nat) (loc:List (Option Nat)) (acc:List Nat):List Operand->List Nat
 | []=>acc
 | .tmp t::r=>rdO na loc (match jmv t loc 0 with | some _=>acc | none=>qvl na acc t) r
 | _::r=>rdO na loc acc r
def jz9 (na:Nat):List (Option Nat)->List Nat->List Oper->List Nat
 | _,acc,[]=>acc
 | loc,acc,o::r=>jz9 na (o.dst::loc) (rdO na loc acc o.op.operands.toList) r
def jjq (na:Nat) (acc:List Nat):Code->List Nat
 | .region _ ops _=>jz9 na [] acc ops.toList
 | .seq a b=>jjq na (jjq na acc a) b
 | .cond c a b=>jjq na (jjq na (rdO na [] acc [c]) a) b
 | .block _ b=>jjq na acc b
 | .loop b=>jjq na acc b
 | _=>acc
def j6k (na:Nat) (acc:List Nat):List ResultVar->List Nat
 | []=>acc
 | .tmp t::r=>j6k na (qvl na acc t) r
 | .cell t _::r=>j6k na (qvl na acc t) r
def j31 (n:Nat):Nat->List Nat
 | 0=>[]
 | k+1=>n::j31 (n+1) k
def qks (T:Tr TI) (cb acc:List Nat) (f:Func):Option IF :=
 match f.body with
 | none=>none
 | some b =>
  match f.params.size+f.nfree with
  | nargs=>match j31 0 nargs++acc with
   | π=>match jgu T cb π f.ntmps b,qc5 T π f.results.toList with
    | some c,some r=>some (.mk c nargs (jb6 acc) r)
    | _,_=>none
def qqt (f:Func):List Nat:=match f.body with
 | none=>[]
 | some b=>j6k (f.params.size+f.nfree) (jjq (f.params.size+f.nfree) [] b) f.results.toList
def qqu (T:Tr TI) (f:Func):Option IF:=qks T [] (qqt f) f
end
abbrev Za:List SV:=[.int .i64 0,.int .i64 0,.bool false,.int .i64 0,.int .i64 0]
abbrev Zb:List SV:=[.int .i64 0,.int .i64 0,.int .i64 0,.int .i64 0,.int .i64 0,.int .i64 0,.int .i64 0]
abbrev Zc:List SV:=[.int .i64 0,.int .i64 0,.int .i64 0]
abbrev Zd:List SV:=[.int .i64 0,.int .i64 0,.nilSlice,.nilSlice,.int .i64 0,.int .i64 0,.nilSlice,.int .i64 0]
abbrev Ze:List SV:=[.int .i64 0,.int .i64 0,.nilSlice,.nilSlice,.int .i64 0,.int .i64 0,.nilSlice]
abbrev Zf:List SV:=[.int .i64 0,.int .i64 0]
abbrev Zg:List SV:=[.int .i64 0,.nilSlice,.nilSlice]
abbrev Zh:List SV:=[.int .i64 0,.nilSlice]
abbrev Zi:List SV:=[.nilSlice,.nilSlice,.nilSlice]
abbrev Zj:List SV:=[.nilSlice,.nilSlice]
end Go.Proofs.YtkpadfebkaangaaGreatDoor.Ev

/- How a law's arguments read: lists of numbers, and lists of structs of numbers, as they lie in memory, each number within its kind. Conditions: the types' own rows of the table. -/
import Derived.WalkKit
import Derived.ProofKit
import Derived.OpenShut
import Derived.ShutString
import Derived.ChangeOld
import Derived.SizedLaws
import Derived.Deep.Slices
import Derived.Deep.Fields
import Derived.ChangeSame
import Derived.Deep.Draws
import Derived.Test.YtkplfnkgodnmaaaComp
namespace Go.Proofs.Ytkplfnkgodnmaaa
open Go.ChangeShapes Go.WideShapes Go.ChangeAt Go.RowKit
set_option linter.all false
def jzk (k:IntKind) (w:World) (A:Option Addr) (xs:List Int):Prop :=
 ∀ i (_:i<xs.length),∃ b off,A=some ⟨b,off,none⟩/\∀ i (h:i<xs.length),w.cell? ⟨b,off+i,none⟩=some (.int k xs[i])
theorem jzk.nil (k:IntKind) (w:World) (A:Option Addr):jzk k w A []:=fun _ h=>absurd h (by simp)
theorem jzk.keep {k:IntKind} {w w':World} {A:Option Addr} {xs:List Int} (h:jzk k w A xs) (hk:Below w.heap.size w w'):jzk k w' A xs:=by
 intro i hi
 obtain⟨b,off,rfl,hc⟩:=h i hi
 refine⟨b,off,rfl,fun j hj=>?_⟩
 have:=hc j hj
 rw[←this]
 refine hk.cell ?_
 rcases f0j b w.heap.size with h1 | h1
 .exact h1
 .rw [World.cell?,Array.getElem?_eq_none (by exact h1)] at this;cases this
theorem jzl {k:IntKind} {a b:Int} (h:a=b):Ending.returned (.int k a)=.returned (.int k b):=by rw[h]
theorem hide {p:Prop} (h:p):Hid p:=h
def qm1 (n:Int):Prop:=-9223372036854775808<=n/\n<=9223372036854775807
theorem jls {w:World} {x:Addr} {v:Value} (h:w.cell? x=some v):x=⟨x.block,x.off,none⟩:=by
 obtain⟨b,o,s⟩:=x
 cases s with
 | none=>rfl
 | some _ =>
  rw[World.cell?] at h
  simp only[Option.isSome_some,if_true] at h
  split at h<;>simp at h
theorem jqq {w:World} {x:Addr} {v:Value} (i:Nat) (h:w.cell? (x.add i)=some v) (h0:i=0->True):x.add i=⟨x.block,x.off+i,none⟩:=by
 unfold Addr.add at h ⊢
 split
 .rename_i hi;subst hi;simp only[if_true] at h;exact jls h
 .rfl
section
variable {H:Type} {enc:TypeId×Value->H} {P:Program} {W:World}
theorem jzm {t e:TypeId} {k:IntKind} {v:Value} {d:DataW H} {ps:List MemPlace} {base:Nat} (ht:P.underlying t=some (.slice e)) (he:P.underlying e=some (.int k)) (hc:P.cellsOf e=1)
 (hv:Value.okWide P W .any base t v) (h:DataW.Trod enc P W 0 (fun _=>true) true t v d ps) :
 ∃ A len cap xs,v=.slice A len cap/\xs.length=len/\len<=maxLen/\jzk k W A xs/\(∀ x∈xs,(Lit.int k x).wf=true) /\
  ∀ (r:Nat) (_:∀ elems spare,d=.slice elems spare->(elems.length+spare.length)*P.bytesOf e<=r),len*P.bytesOf e<=r:=by
 obtain⟨A,len,cap,rfl⟩:=okWide_slice ht hv
 obtain⟨fuel,hf⟩:=h
 rcases open_ints ht he hc hf with⟨hcs,_⟩ | ⟨x,l,c,zs,hcs,_,hl,hm,hz,hx,hcell,hwz⟩
 .simp [Value.cells] at hcs
  obtain⟨rfl,rfl,rfl⟩:=hcs
  exact⟨_,_,_,[],rfl,rfl,by simp,jzk.nil _ _ _,by simp,fun r _=>by simp⟩
 .simp [Value.cells] at hcs
  obtain⟨rfl,rfl,rfl⟩:=hcs
  have hz':zs.length=cap:=by simpa using hz
  have hd:d=.slice (lits k (zs.take len)) (lits k (zs.drop len)):=by injection hx
  refine⟨_,_,_,zs.take len,rfl,by simp;omega,by omega,?_,fun y hy=>hwz y (List.mem_of_mem_take hy),fun r hr=>?_⟩
  .intro i hi
   have hi':i<len:=by simp at hi;omega
   have h0:=jls (hcell 0 (by omega))
   rw[show x.add 0=x from by unfold Addr.add;simp] at h0
   refine⟨x.block,x.off,by rw[←h0],fun j hj=>?_⟩
   have hj':j<len:=by simp at hj;omega
   have hc:=hcell j (by omega)
   rw[jqq j hc (fun _=>trivial)] at hc
   rw[hc]
   simp[f0b (show j<zs.length by omega)]
  .have:=hr _ _ hd
   simp[lits] at this
   have hle:len<=min len zs.length+(zs.length - len):=by omega
   exact f0w (f2f _ hle) this
end
end Go.Proofs.Ytkplfnkgodnmaaa

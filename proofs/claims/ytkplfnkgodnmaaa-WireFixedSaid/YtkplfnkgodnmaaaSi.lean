/- What functions may be: instructions. -/
import Derived.Test.YtkplfnkgodnmaaaSf
namespace Go.Proofs.Ytkplfnkgodnmaaa.Ev
open Go Go.RowKit Go.Proofs.Ytkplfnkgodnmaaa.Ms
set_option linter.all false
set_option maxRecDepth 100000
set_option maxHeartbeats 2000000
section
variable {h:Hp} {f:Fc} {m:Nat×Nat} {Q:AV->Hp->Prop}
end
def bls (s:List Bool):List SV:=s.map SV.bool
structure OnI (hi:Hp) (f:Fc) (bF bM bA:Nat) (s:List Bool):Prop where
 ok:Ok hi
 hs:s.length=f.values.length
 lt:bF<hi.next/\bM<hi.next/\bA<hi.next
 pos:1<=bA/\bF≠bA/\bM≠bA
 xF:hi.get bF=some (.arr [jag jak f.values,jag jax f.blocks] 29)
 xM:hi.get bM=some (.arr [.slice bA 0 f.values.length f.values.length true 1] 106)
 xA:hi.get bA=some (.arr (bls s) 4)
section
variable {hi hj:Hp} {f:Fc} {bF bM bA:Nat} {s:List Bool}
theorem OnI.keep (k:OnI hi f bF bM bA s) (ok:Ok hj) (hn:hi.next<=hj.next) (g:∀ n,n<hi.next->hj.get n=hi.get n):OnI hj f bF bM bA s :=
 ⟨ok,k.hs,⟨f0m k.lt.1 hn,f0m k.lt.2.1 hn,f0m k.lt.2.2 hn⟩,k.pos,(g _ k.lt.1).trans k.xF,(g _ k.lt.2.1).trans k.xM,(g _ k.lt.2.2).trans k.xA⟩
end
end Go.Proofs.Ytkplfnkgodnmaaa.Ev

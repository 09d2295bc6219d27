/- How a law's arguments read: lists of numbers, and lists of structs of numbers, as they lie in memory, each number within its kind. Conditions: the types' own rows of the table. -/
import Derived.WalkKit
import Derived.ProofKit
import Derived.OpenShut
import Derived.ShutString
import Derived.ChangeOld
import Derived.SizedLaws
import Derived.Deep.Slices
import Derived.Deep.Fields
import Derived.ChangeSame
import Derived.Deep.Draws
import Derived.Test.YtdbklpgagdbpiaaDoorComp
namespace Go.Proofs.YtdbklpgagdbpiaaDoor
open Go.ChangeShapes Go.WideShapes Go.ChangeAt Go.RowKit
set_option linter.all false
def qpk (k:IntKind) (w:World) (A:Option Addr) (xs:List Int):Prop :=
 ∀ i (_:i<xs.length),∃ b off,A=some ⟨b,off,none⟩/\∀ i (h:i<xs.length),w.cell? ⟨b,off+i,none⟩=some (.int k xs[i])
theorem qpk.nil (k:IntKind) (w:World) (A:Option Addr):qpk k w A []:=fun _ h=>absurd h (by simp)
theorem qpk.keep {k:IntKind} {w w':World} {A:Option Addr} {xs:List Int} (h:qpk k w A xs) (hk:Below w.heap.size w w'):qpk k w' A xs:=by
 intro i hi
 obtain⟨b,off,rfl,hc⟩:=h i hi
 refine⟨b,off,rfl,fun j hj=>?_⟩
 have:=hc j hj
 rw[←this]
 refine hk.cell ?_
 rcases f0h b w.heap.size with h1 | h1
 .exact h1
 .rw [World.cell?,Array.getElem?_eq_none (by exact h1)] at this;cases this
theorem j7s {k:IntKind} {a b:Int} (h:a=b):Ending.returned (.int k a)=.returned (.int k b):=by rw[h]
theorem hide {p:Prop} (h:p):Hid p:=h
def qpl (n:Int):Prop:=-9223372036854775808<=n/\n<=9223372036854775807
theorem jmj {n:Int} (h:(Lit.int .i64 n).wf=true):qpl n:=by
 unfold qpl;simpa[Lit.wf,IntKind.min,IntKind.max,IntKind.signed,IntKind.bits] using h
theorem j7t {w:World} {x:Addr} {v:Value} (h:w.cell? x=some v):x=⟨x.block,x.off,none⟩:=by
 obtain⟨b,o,s⟩:=x
 cases s with
 | none=>rfl
 | some _ =>
  rw[World.cell?] at h
  simp only[Option.isSome_some,if_true] at h
  split at h<;>simp at h
section
variable {H:Type} {enc:TypeId×Value->H} {P:Program} {W:World}
end
end Go.Proofs.YtdbklpgagdbpiaaDoor

/- Functions built of pieces: the pieces, one by one. -/
import Derived.Test.YtbogkjjoigfbjaaMc6
namespace Go.Proofs.Ytbogkjjoigfbjaa.Ev
open Go Go.RowKit Go.Proofs.Ytbogkjjoigfbjaa.Ms
set_option linter.all false
set_option maxRecDepth 100000
set_option maxHeartbeats 2000000
variable {size:Nat}
structure LstE {α:Type} (enc:α->List SV) (size:Nat) (x:SV) (l:List α):Prop where
 len:js2 (.s x)=some (vi l.length)
 at_:∀ {i:Nat} {a:α},l[i]?=some a->jwo size (.s x) (vi (i:Int))=some (.s (.cp (enc a)))
 grd:grd x=true
theorem LstE.enc {α:Type} {enc:α->List SV} {l:List α} (hs:∀ a,(enc a).length=size):LstE enc size (jbj enc l) l:=⟨jbd,fun h=>jbe h (hs _),jhn⟩
theorem LstE.emp {α:Type} {enc:α->List SV}:LstE enc size (.lst []) []:=⟨rfl,fun h=>by simp at h,rfl⟩
section
variable {k:Bool} {h:Hp} {d:Nat}
end
def In6 (a:Int):Prop:=-9223372036854775808<=a/\a<=9223372036854775807
theorem jn4 {cells:List SV} {ty i:Nat} {c:SV} (h:cells[i]?=some c):rdB (some (.arr cells ty)) i 1=some [c]:=by
 have hi:i<cells.length:=by
  rcases f0e i cells.length with h1 | h1
  .exact h1
  .rw [f0m h1] at h;cases h
 rw[f0f hi] at h
 rw[jds,jbk,f05 hi,Option.some.inj h]
 rfl
def S3 (f:FuncId):Bool:=Nat.beq f 7||(Nat.beq f 8||Nat.beq f 9)
noncomputable def F3:Fns:=PX S3 F2
end Go.Proofs.Ytbogkjjoigfbjaa.Ev

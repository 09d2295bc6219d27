/- Functions built of pieces: the pieces, one by one. -/
import Derived.Test.YthbghmhjgdonmaaMc6
namespace Go.Proofs.Ythbghmhjgdonmaa.Ev
open Go Go.RowKit Go.Proofs.Ythbghmhjgdonmaa.Ms
set_option linter.all false
set_option maxRecDepth 100000
set_option maxHeartbeats 2000000
variable {size:Nat}
structure LstE {α:Type} (enc:α->List SV) (size:Nat) (x:SV) (l:List α):Prop where
 len:jqp (.s x)=some (vi l.length)
 at_:∀ {i:Nat} {a:α},l[i]?=some a->jts size (.s x) (vi (i:Int))=some (.s (.cp (enc a)))
 grd:grd x=true
theorem LstE.enc {α:Type} {enc:α->List SV} {l:List α} (hs:∀ a,(enc a).length=size):LstE enc size (jb6 enc l) l:=⟨jb5,fun h=>jc4 h (hs _),jg2⟩
theorem LstE.emp {α:Type} {enc:α->List SV}:LstE enc size (.lst []) []:=⟨rfl,fun h=>by simp at h,rfl⟩
section
variable {k:Bool} {h:Hp} {d:Nat}
theorem EI.frz {row:List SV} {n:Nat} {ms:List Nat} (e:EI row n ms):jgd (jfy k h (d+1)) row=some (jfn n):=by
 obtain⟨rfl,rfl⟩:=e;rfl
end
def In6 (a:Int):Prop:=-9223372036854775808<=a/\a<=9223372036854775807
theorem j58 {cells:List SV} {ty i:Nat} {c:SV} (h:cells[i]?=some c):rdB (some (.arr cells ty)) i 1=some [c]:=by
 have hi:i<cells.length:=by
  rcases f0e i cells.length with h1 | h1
  .exact h1
  .rw [f0o h1] at h;cases h
 rw[f0f hi] at h
 rw[jdn,jbd,f0w hi,Option.some.inj h]
 rfl
end Go.Proofs.Ythbghmhjgdonmaa.Ev

/- Functions built of pieces: the pieces, one by one. -/
import Derived.Test.YtkplfnkgodnmaaaMc6
namespace Go.Proofs.Ytkplfnkgodnmaaa.Ev
open Go Go.RowKit Go.Proofs.Ytkplfnkgodnmaaa.Ms
set_option linter.all false
set_option maxRecDepth 100000
set_option maxHeartbeats 2000000
variable {ms:List Nat} {row:List SV} {size:Nat}
structure LstE {α:Type} (enc:α->List SV) (size:Nat) (x:SV) (l:List α):Prop where
 len:jlz (.s x)=some (vi l.length)
 at_:∀ {i:Nat} {a:α},l[i]?=some a->jj3 size (.s x) (vi (i:Int))=some (.s (.cp (enc a)))
 grd:grd x=true
theorem LstE.enc {α:Type} {enc:α->List SV} {l:List α} (hs:∀ a,(enc a).length=size):LstE enc size (jag enc l) l:=⟨jad,fun h=>jaf h (hs _),ja8⟩
theorem LstE.emp {α:Type} {enc:α->List SV}:LstE enc size (.lst []) []:=⟨rfl,fun h=>by simp at h,rfl⟩
section
variable {k:Bool} {h:Hp} {d:Nat}
theorem EI.frz {n:Nat} (e:EI row n ms):je3 (jc0 k h (d+1)) row=some (jak n):=by
 obtain⟨rfl,rfl⟩:=e;rfl
theorem EO.frz {n:Ms.Opd} (e:EO row n ms):je3 (jc0 k h (d+1)) row=some (jbc n):=by
 obtain⟨rfl,rfl⟩:=e;rfl
theorem ER.frz {n:Nat×Nat} (e:ER row n ms):je3 (jc0 k h (d+1)) row=some (jcu n):=by
 obtain⟨rfl,rfl⟩:=e;rfl
end
theorem j1t {cells:List SV} {ty i:Nat} {c:SV} (h:cells[i]?=some c):rdB (some (.arr cells ty)) i 1=some [c]:=by
 have hi:i<cells.length:=by
  rcases f0j i cells.length with h1 | h1
  .exact h1
  .rw [f0t h1] at h;cases h
 rw[f0b hi] at h
 rw[jdm,jaz,f0p hi,Option.some.inj h]
 rfl
end Go.Proofs.Ytkplfnkgodnmaaa.Ev

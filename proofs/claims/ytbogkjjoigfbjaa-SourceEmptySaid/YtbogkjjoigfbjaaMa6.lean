/- The builders of functions: instructions, one def. -/
import Derived.Test.YtbogkjjoigfbjaaMa3
namespace Go.Proofs.Ytbogkjjoigfbjaa.Ev
open Go Go.RowKit Go.Proofs.Ytbogkjjoigfbjaa.Ms
set_option linter.all false
set_option maxRecDepth 100000
set_option maxHeartbeats 2000000
variable {i:Nat} {p:Pc}
section
variable {F:Fns} (B:Base F)
include B
end
theorem jwv {flags uses:Nat} {x:Iw×Nat×Ms} (hr:x.2.1<=uses):(jiy p flags uses i x).2.1<=uses/\(jiy p flags uses i x).1.ops.length=x.1.ops.length+1/\(jiy p flags uses i x).2.2={ x.2.2 with values:=x.2.2.values++[jfl p i] }/\((∀ o∈x.1.ops,o.value<x.2.2.values.length)->∀ o∈(jiy p flags uses i x).1.ops,o.value<(jiy p flags uses i x).2.2.values.length):=by
 have hk:pk p.b (uses+1)<uses+1:=jwt (by omega)
 unfold jiy
 simp only
 split
 .refine ⟨by simp only;omega,by simp,rfl,fun h o ho=>?_⟩
  simp only[f0i,f0v,f0s,f1u] at ho ⊢
  rcases ho with ho | rfl
  .have:=h o ho;omega
  .simp
 .refine ⟨hr,by simp,rfl,fun h o ho=>?_⟩
  simp only[f0i,f0v,f0s,f1u] at ho ⊢
  rcases ho with ho | rfl
  .have:=h o ho;omega
  .simp
theorem j51:jfl p i<2:=by
 unfold jfl
 have h1:=f2t (p.c / 2 ^ i) (by omega:(2:Int)≠0)
 have h2:=f2k (p.c / 2 ^ i) (by omega:(0:Int)<2)
 omega
theorem Wok.value {w:Ms} {N c:Nat} (k:Wok w N) (hc:c<2):Wok { w with values:=w.values++[c] } (N+1) :=
 ⟨k.m1,k.m2,fun x hx=>by
  rcases f0i.1 hx with h | h
  .exact k.vals x h
  .simp at h;omega,fun v hv=>by have:=k.known v hv;simp;omega,k.cur,by simp;exact k.nv,f1e k.nb,f1e k.nk,fun b hb=>by have:=k.ni b hb;omega,f1e k.na⟩
section
variable {F:Fns} (B:Base F)
include B
end
section
variable {F:Fns} (B:Base F)
include B
end
end Go.Proofs.Ytbogkjjoigfbjaa.Ev

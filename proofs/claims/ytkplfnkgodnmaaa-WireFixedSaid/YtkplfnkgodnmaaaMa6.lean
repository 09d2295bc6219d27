/- The builders of functions: instructions, one def. -/
import Derived.Test.YtkplfnkgodnmaaaMa3
namespace Go.Proofs.Ytkplfnkgodnmaaa.Ev
open Go Go.RowKit Go.Proofs.Ytkplfnkgodnmaaa.Ms
set_option linter.all false
set_option maxRecDepth 100000
set_option maxHeartbeats 2000000
variable {i:Nat} {p:Pc}
section
variable {F:Fns} (B:Base F)
include B
end
theorem jxq {flags uses:Nat} {x:Iw×Nat×Ms} (hr:x.2.1<=uses):(jpt p flags uses i x).2.1<=uses/\(jpt p flags uses i x).1.ops.length=x.1.ops.length+1/\(jpt p flags uses i x).2.2={ x.2.2 with values:=x.2.2.values++[jgg p i] }/\((∀ o∈x.1.ops,o.value<x.2.2.values.length)->∀ o∈(jpt p flags uses i x).1.ops,o.value<(jpt p flags uses i x).2.2.values.length):=by
 have hk:pk p.b (uses+1)<uses+1:=qhp (by omega)
 unfold jpt
 simp only
 split
 .refine ⟨by simp only;omega,by simp,rfl,fun h o ho=>?_⟩
  simp only[f0f,f06,f0g,f1x] at ho ⊢
  rcases ho with ho | rfl
  .have:=h o ho;omega
  .simp
 .refine ⟨hr,by simp,rfl,fun h o ho=>?_⟩
  simp only[f0f,f06,f0g,f1x] at ho ⊢
  rcases ho with ho | rfl
  .have:=h o ho;omega
  .simp
theorem qdt:jgg p i<2:=by
 unfold jgg
 have h1:=Int.emod_nonneg (p.c / 2 ^ i) (by omega:(2:Int)≠0)
 have h2:=Int.emod_lt_of_pos (p.c / 2 ^ i) (by omega:(0:Int)<2)
 omega
theorem Wok.value {w:Ms} {N c:Nat} (k:Wok w N) (hc:c<2):Wok { w with values:=w.values++[c] } (N+1) :=
 ⟨k.m1,k.m2,fun x hx=>by
  rcases f0f.1 hx with h | h
  .exact k.vals x h
  .simp at h;omega,fun v hv=>by have:=k.known v hv;simp;omega,k.cur,by simp;exact k.nv,f16 k.nb,f16 k.nk,fun b hb=>by have:=k.ni b hb;omega,f16 k.na⟩
section
variable {F:Fns} (B:Base F)
include B
end
section
variable {F:Fns} (B:Base F)
include B
end
end Go.Proofs.Ytkplfnkgodnmaaa.Ev

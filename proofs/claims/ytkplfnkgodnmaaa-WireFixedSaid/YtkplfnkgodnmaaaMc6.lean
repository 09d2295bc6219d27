/- The builders of functions: a loop. -/
import Derived.Test.YtkplfnkgodnmaaaMc4
namespace Go.Proofs.Ytkplfnkgodnmaaa.Ev
open Go Go.RowKit Go.Proofs.Ytkplfnkgodnmaaa.Ms
set_option linter.all false
set_option maxRecDepth 100000
set_option maxHeartbeats 2000000
theorem qhq {a:Int} (h1:-9223372036854775808<=a) (h2:a<=9223372036854775807):-9223372036854775808<=odd a/\odd a<=9223372036854775807:=by
 unfold odd;omega
theorem Pin.odd {q:Pc} (pin:Pin q):Pin { q with flags:=Ms.odd q.flags }:=⟨pin.kind,pin.op,pin.a,pin.b,pin.c,pin.limits,qhq pin.flags.1 pin.flags.2⟩
theorem Wok.params {w:Ms} {N:Nat} (wk:Wok w N) {l:List Nat} (h:∀ v∈l,v<w.values.length) (hl:l.length<=2):Wok { w with known:=w.known++l } (N+2):=⟨wk.m1,wk.m2,wk.vals,fun v hv=>by
 rcases f0f.1 hv with h1 | h1
 .exact wk.known v h1
 .exact h v h1,wk.cur,f1i wk.nv,f1i wk.nb,by have:=wk.nk;simp;omega,fun b hb=>by have:=wk.ni b hb;omega,f1i wk.na⟩
open Go Go.RowKit
variable {w:Ms}
theorem FS.cur {h0 hi:Hp} {p:Nat} {ns ns':List Nat} {L:List (Nat×AB)} (k:FS h0 hi p w ns L ns') (hc:w.cur<w.blocks.length):∃ a b c bb ia,hi.get p=some (.arr [si w.m.1,si w.m.2,a,b,si w.cur,c,si w.all] tt.mas)/\jlz (.s a)=some (vi w.values.length)/\jlz (.s b)=some (vi w.blocks.length) /\
 jj3 3 (.s b) (vi (w.cur:Int))=some (.s (.ptr bb (w.cur*3)))/\rdB (hi.get bb) (w.cur*3+1) 1=some [ia]/\jlz (.s ia)=some (vi (lenOf w)):=by
 obtain⟨⟨a,b,c,n1,n2,n3,h1,h2,h3,h4,e⟩,h5,h6⟩:=k.mr
 obtain⟨blk,hblk⟩:∃ blk,w.blocks[w.cur]?=some blk:=⟨_,f0b hc⟩
 obtain⟨bb,row,ms,ix,hrd,hrl,⟨pp,ia,ee,na,nb,nc,rfl,sp,sI,sE,rfl⟩,hms,hbb⟩:=h3.at hblk
 have rd1:=jq5 (j:=1) (c:=ia) hrd rfl
 refine⟨a,b,c,bb,ia,h1,h2.len,h3.len,ix,rd1,?_⟩
 rw[sI.len]
 unfold lenOf
 rw[f0n,hblk,Option.getD_some]
def qob (w:Ms):Bool:=decide (w.blocks.length+3<=16)&&(decide (lenOf w<20)&&decide (w.values.length<110))
theorem Wok.le {N M:Nat} (wk:Wok w N) (h:N<=M):Wok w M:=⟨wk.m1,wk.m2,wk.vals,wk.known,wk.cur,f0w wk.nv h,f0w wk.nb h,f0w wk.nk h,fun b hb=>by have:=wk.ni b hb;omega,f0w wk.na h⟩
end Go.Proofs.Ytkplfnkgodnmaaa.Ev

/- An append ahead of what it need not be behind. -/
import Derived.Test.YtbogkjjoigfbjaaOr
import Derived.Test.YtbogkjjoigfbjaaLz
import Derived.Test.YtbogkjjoigfbjaaOp
import Derived.Test.YtbogkjjoigfbjaaEnc
import Derived.Test.YtbogkjjoigfbjaaMa3
namespace Go.Proofs.Ytbogkjjoigfbjaa.Ev
open Go Go.RowKit Go.Proofs.Ytbogkjjoigfbjaa.Ms
set_option linter.all false
set_option maxRecDepth 100000
set_option maxHeartbeats 2000000
section
variable {F:Fns} {st fr:List AV} {es:List Ent} {h h2:Hp} {dst:Option Nat} {l:List (IOper×Option (List Nat))} {Q:Ex->St->Prop}
theorem jua {e:TypeId} {size bytes:Nat} {ox oy:Od} {js:List Nat} {b o n mc sz:Nat} {ex:Bool} {w v:AV} (k:Ok h) (k2:Ok h2) (hx:ev st fr ox=some (.s (.slice b o n mc ex sz))) (hw:ev st fr oy=some w) (hs:sel es js []=some []) (hu:jdx es js b=true) {c:AB} (hb:h.get b=some c) (ha:jrm h e size bytes (.s (.slice b o n mc ex sz)) w=some (v,h2)) :
 WD F ((.mk dst (.a (.app e size bytes ox oy)) none,some js)::l) st es fr h Q=WD F l (v::st) (.mk [(b,Nat.succ b),(h.next,h2.next)] none::es) (jba fr dst v) h2 Q:=by
 rw[jsv (x:=some (DR.mk v h2 (.mk [(b,Nat.succ b),(h.next,h2.next)] none))) (fun cl=>?_)]
 .exact ja0
 .cases h with
  | mk n1 t lo hid =>
  cases h2 with
  | mk n2 t2 lo2 hid2 =>
  obtain rfl:hid=[]:=k.hid
  obtain rfl:lo=0:=k.lo
  obtain rfl:hid2=[]:=k2.hid
  obtain rfl:lo2=0:=k2.lo
  have hc:jaw st fr (.a (.app e size bytes ox oy))=.app b:=by
   show jqi (ob (ev st fr ox) (fun v=>jep v none (fun b _ _ _ _ _=>some b))) Cls.app=_
   rw[hx];rfl
  have hi:iop cl st fr (.mk n1 t 0 []) (.a (.app e size bytes ox oy))=some (v,.mk n2 t2 0 []):=by
   show ob (ev st fr ox) (fun v=>ob (ev st fr oy) (fun w=>jrm (.mk n1 t 0 []) e size bytes v w))=_
   rw[hx,hw];exact ha
  show ob (sel es js []) (fun hid'=>Cls.casesOn (motive:=fun _=>Option DR) (jaw st fr (.a (.app e size bytes ox oy))) _ _ (fun b=>oif (jdx es js b) (oif (Nat.ble 0 b) (ob (Hp.get (.mk n1 t 0 hid') b) (fun _=>jhv cl st fr n1 t 0 0 [] hid' (.a (.app e size bytes ox oy)) (fun n'=>.mk [(b,Nat.succ b),(n1,n')] none))) none) none) _ _)=_
  rw[hs]
  show Cls.casesOn (motive:=fun _=>Option DR) (jaw st fr (.a (.app e size bytes ox oy))) _ _ (fun b=>oif (jdx es js b) (oif (Nat.ble 0 b) (ob (Hp.get (.mk n1 t 0 []) b) (fun _=>jhv cl st fr n1 t 0 0 [] [] (.a (.app e size bytes ox oy)) (fun n'=>.mk [(b,Nat.succ b),(n1,n')] none))) none) none) _ _=_
  rw[hc]
  show oif (jdx es js b) (oif (Nat.ble 0 b) (ob (Hp.get (.mk n1 t 0 []) b) (fun _=>ob (iop cl st fr (.mk n1 t 0 []) (.a (.app e size bytes ox oy))) _)) none) none=_
  rw[hu,hb,hi]
  cases b<;>rfl
end
open Go Go.RowKit
variable {f:FuncId} {h:Hp} {b:Nat}
theorem qa7 (ok:Ok h) (hb:1<=b) (x:Option AB):∃ hA,h.put b x=hA/\Ok hA/\hA.next=h.next/\hA.get b=x/\∀ n,n≠b->hA.get n=h.get n :=
 ⟨_,rfl,jd7 ok,Hp.next_put ..,by rw[jbi ok hb,if_pos rfl],fun n hn=>by rw[jbi ok hb,if_neg hn]⟩
def lnI (i:Nat):Ms.Ins:=⟨i % 256,(if i=0 then [] else [⟨1,i - 1,false,1,0⟩])++[⟨2,i,true,1,0⟩],[]⟩
def lnF (k:Nat):Fc:=⟨List.replicate k 0,[⟨[],(List.range k).map lnI,[]⟩]⟩
noncomputable def j83 (F:Fns) (n:Nat) (f:FuncId) (us:List AV) (u:AV):Bool:=Option.rec (motive:=fun _=>Bool) false (fun x=>eqA x u) (ob (jgd F n f us h0) (fun p=>jib true p.2 9 p.1))
theorem j0u {F:Fns} {n:Nat} {us:List AV} {u:AV} (h:j83 F n f us u=true):jjm true F f us u:=by
 unfold j83 at h
 cases hr:ob (jgd F n f us h0) (fun p=>jib true p.2 9 p.1) with
 | none=>rw[hr] at h;cases h
 | some x =>
  rw[hr] at h
  obtain rfl:=jrc _ _ h
  obtain⟨p,h1,h2⟩:=jaa.1 hr
  exact⟨n,p.1,p.2,h1,9,h2⟩
def SE (f:FuncId):Bool:=Nat.beq f 11||(Nat.beq f 12||Nat.beq f 16)
noncomputable def KB:Fns:=PX SE F0
theorem qak {A:Nat->Int}:Env Try.prog A tys KB:=ju6 qbx
theorem kno (h:SE f=false) {vs:List AV} {hh:Hp}:jf8 KB f vs hh=none:=(jes h).trans qae
theorem jhu {α:Type} {d:Nat} {enc:α->List SV} {l:List α}:jia true h (d+1) (jbj enc l)=some (jbj enc l):=by cases l<;>rfl
theorem j84 (ok:Ok h) (hb:1<=b) (x:Option AB):∃ hA,h.put b x=hA/\Ok hA/\hA.next=h.next/\hA.get b=x/\∀ n,n≠b->hA.get n=h.get n :=
 ⟨_,rfl,jd7 ok,Hp.next_put ..,by rw[jbi ok hb,if_pos rfl],fun n hn=>by rw[jbi ok hb,if_neg hn]⟩
end Go.Proofs.Ytbogkjjoigfbjaa.Ev

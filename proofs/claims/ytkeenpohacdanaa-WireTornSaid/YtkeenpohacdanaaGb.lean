/- Graphs of functions built of pieces: shapes, and what is told of them. No program in sight. -/
import Derived.Test.YtkeenpohacdanaaVd
import Derived.Test.YtkeenpohacdanaaOr
namespace Go.Proofs.Ytkeenpohacdanaa.Ms
set_option linter.all false
def j5e (g:List (List Nat)) (b:Bool):List (List Nat) :=
 let a:=g.length
 match b with
 | false=>g.modify (a - 1) (·++[a,a+1])++[[a+2],[a+2],[]]
 | true=>g.modify (a - 1) (·++[a])++[[a+1,a+2],[a],[]]
def gS (s:List Bool):List (List Nat):=s.foldl j5e [[]]
def qaw:List Bool->Nat->List Nat
 | [],c=>[c]
 | false::s,c=>c::(c+2)::(c+1)::qaw s (c+3)
 | true::s,c=>c::(c+1)::(qaw s (c+3)++[c+2])
def jkx:List Bool->Nat->List Int
 | [],_=>[]
 | false::s,c=>(c:Int)::c::c::jkx s (c+3)
 | true::s,c=>(c:Int)::(c+1:Nat)::(c+1:Nat)::jkx s (c+3)
def jhh (s:List Bool):List Int:=-1::jkx s 0
def qqo (g:List (List Nat)) (b:Nat):Nat->List Nat
 | 0=>[]
 | k+1=>qqo g b k++((g.getD k []).filter (fun x=>x == b)).map (fun _=>k)
def j5f (g:List (List Nat)):List (List Nat):=(List.range g.length).map (fun b=>qqo g b g.length)
end Go.Proofs.Ytkeenpohacdanaa.Ms
namespace Go.Proofs.Ytkeenpohacdanaa.Ev
open Go Go.RowKit Go.Proofs.Ytkeenpohacdanaa.Ms
set_option linter.all false
set_option maxRecDepth 100000
def qsh (a:Nat->SV):Nat->List Nat->List (List SV)
 | _,[]=>[]
 | j,t::es=>[si t,a j]::qsh a (j+1) es
def qsi (a:Nat->SV):List Nat->SV
 | []=>.nilSlice
 | t::es=>.lst (qsh a 0 (t::es))
def qax (ps is:Nat->SV) (ags:Nat->Nat->SV):Nat->List (List Nat)->List (List SV)
 | _,[]=>[]
 | k,es::g=>[ps k,is k,qsi (ags k) es]::qax ps is ags (k+1) g
def qsj (g:List (List Nat)) (v:SV) (ps is:Nat->SV) (ags:Nat->Nat->SV):List SV:=[v,.lst (qax ps is ags 0 g)]
def jk9 (n:Int):List SV:=[si n]
def jrj (l:List Nat):List SV:=[jae jav l]
noncomputable def qsk (fn:FuncId) (extra:List AV) (g:List (List Nat)) (v:SV) (ps is:Nat->SV) (ags:Nat->Nat->SV):Option AV :=
 ob (jn5 F7 3000 fn (.agg (qsj g v ps is ags)::extra) h0) (fun p=>jg1 true p.2 9 p.1)
theorem jqy {fn:FuncId} {extra:List AV} {g:List (List Nat)} {v:SV} {ps is:Nat->SV} {ags:Nat->Nat->SV} {u:AV} (h:qsk fn extra g v ps is ags=some u):jpf true F7 fn (.agg (qsj g v ps is ags)::extra) u:=by
 obtain⟨p,h1,h2⟩:=jaa.1 h
 exact⟨3000,p.1,p.2,h1,9,h2⟩
def oG (s:List Bool):Prop:=∀ (v:SV) (ps is:Nat->SV) (ags:Nat->Nat->SV),qsk 25 [] (gS s) v ps is ags=some (.s (jae jav (qaw s 0)))
def nG (s:List Bool):Prop:=∀ (v:SV) (ps is:Nat->SV) (ags:Nat->Nat->SV),qsk 26 [] (gS s) v ps is ags=some (.s (jae jrj (j5f (gS s))))
def iG (s:List Bool):Prop:=∀ (v:SV) (ps is:Nat->SV) (ags:Nat->Nat->SV),qsk 28 [.s (jae jav (qaw s 0))] (gS s) v ps is ags=some (.s (jae jk9 (jhh s)))
end Go.Proofs.Ytkeenpohacdanaa.Ev

/- Graphs of functions built of pieces: shapes, and what is told of them. No program in sight. -/
import Derived.Test.YtaljcpoopmedmaaVd
import Derived.Test.YtaljcpoopmedmaaSl
namespace Go.Proofs.Ytaljcpoopmedmaa.Ms
set_option linter.all false
def j26 (g:List (List Nat)) (b:Bool):List (List Nat) :=
 let a:=g.length
 match b with
 | false=>g.modify (a - 1) (·++[a,a+1])++[[a+2],[a+2],[]]
 | true=>g.modify (a - 1) (·++[a])++[[a+1,a+2],[a],[]]
def gS (s:List Bool):List (List Nat):=s.foldl j26 [[]]
def j8x:List Bool->Nat->List Nat
 | [],c=>[c]
 | false::s,c=>c::(c+2)::(c+1)::j8x s (c+3)
 | true::s,c=>c::(c+1)::(j8x s (c+3)++[c+2])
def jkj:List Bool->Nat->List Int
 | [],_=>[]
 | false::s,c=>(c:Int)::c::c::jkj s (c+3)
 | true::s,c=>(c:Int)::(c+1:Nat)::(c+1:Nat)::jkj s (c+3)
def jl0 (s:List Bool):List Int:=-1::jkj s 0
def qik (g:List (List Nat)) (b:Nat):Nat->List Nat
 | 0=>[]
 | k+1=>qik g b k++((g.getD k []).filter (fun x=>x == b)).map (fun _=>k)
def qil (g:List (List Nat)):List (List Nat):=(List.range g.length).map (fun b=>qik g b g.length)
end Go.Proofs.Ytaljcpoopmedmaa.Ms
namespace Go.Proofs.Ytaljcpoopmedmaa.Ev
open Go Go.RowKit Go.Proofs.Ytaljcpoopmedmaa.Ms
set_option linter.all false
set_option maxRecDepth 100000
def qjj (a:Nat->SV):Nat->List Nat->List (List SV)
 | _,[]=>[]
 | j,t::es=>[si t,a j]::qjj a (j+1) es
def qjk (a:Nat->SV):List Nat->SV
 | []=>.nilSlice
 | t::es=>.lst (qjj a 0 (t::es))
def j7w (ps is:Nat->SV) (ags:Nat->Nat->SV):Nat->List (List Nat)->List (List SV)
 | _,[]=>[]
 | k,es::g=>[ps k,is k,qjk (ags k) es]::j7w ps is ags (k+1) g
def qjl (g:List (List Nat)) (v:SV) (ps is:Nat->SV) (ags:Nat->Nat->SV):List SV:=[v,.lst (j7w ps is ags 0 g)]
def qim (l:List Nat):List SV:=[jak ja5 l]
noncomputable def qgo (fn:FuncId) (extra:List AV) (g:List (List Nat)) (v:SV) (ps is:Nat->SV) (ags:Nat->Nat->SV):Option AV :=
 ob (jnd F7 3000 fn (.agg (qjl g v ps is ags)::extra) h0) (fun p=>jhf true p.2 9 p.1)
theorem j7x {fn:FuncId} {extra:List AV} {g:List (List Nat)} {v:SV} {ps is:Nat->SV} {ags:Nat->Nat->SV} {u:AV} (h:qgo fn extra g v ps is ags=some u):ji6 true F7 fn (.agg (qjl g v ps is ags)::extra) u:=by
 obtain ⟨p,h1,h2⟩:=jab.1 h
 exact ⟨3000,p.1,p.2,h1,9,h2⟩
def oG (s:List Bool):Prop:=∀ (v:SV) (ps is:Nat->SV) (ags:Nat->Nat->SV),qgo 38 [] (gS s) v ps is ags=some (.s (jak ja5 (j8x s 0)))
def nG (s:List Bool):Prop:=∀ (v:SV) (ps is:Nat->SV) (ags:Nat->Nat->SV),qgo 39 [] (gS s) v ps is ags=some (.s (jak qim (qil (gS s))))
end Go.Proofs.Ytaljcpoopmedmaa.Ev

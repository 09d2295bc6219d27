/- Graphs of functions built of pieces: shapes, and what is told of them. No program in sight. -/
import Derived.Test.YtaljcpoopmedmaaVd
import Derived.Test.YtaljcpoopmedmaaSl
namespace Go.Proofs.Ytaljcpoopmedmaa.Ms
set_option linter.all false
def j3h (g:List (List Nat)) (b:Bool):List (List Nat) :=
 let a:=g.length
 match b with
 | false=>g.modify (a - 1) (·++[a,a+1])++[[a+2],[a+2],[]]
 | true=>g.modify (a - 1) (·++[a])++[[a+1,a+2],[a],[]]
def gS (s:List Bool):List (List Nat):=s.foldl j3h [[]]
def jp0:List Bool->Nat->List Nat
 | [],c=>[c]
 | false::s,c=>c::(c+2)::(c+1)::jp0 s (c+3)
 | true::s,c=>c::(c+1)::(jp0 s (c+3)++[c+2])
def jkg:List Bool->Nat->List Int
 | [],_=>[]
 | false::s,c=>(c:Int)::c::c::jkg s (c+3)
 | true::s,c=>(c:Int)::(c+1:Nat)::(c+1:Nat)::jkg s (c+3)
def jbd (s:List Bool):List Int:=-1::jkg s 0
def qqs:List Bool->List Nat
 | []=>[]
 | false::s=>0::0::0::qqs s
 | true::s=>1::1::0::qqs s
def j86 (s:List Bool):List Nat:=0::qqs s
def qm6 (g:List (List Nat)) (b:Nat):Nat->List Nat
 | 0=>[]
 | k+1=>qm6 g b k++((g.getD k []).filter (fun x=>x == b)).map (fun _=>k)
def jqj (g:List (List Nat)):List (List Nat):=(List.range g.length).map (fun b=>qm6 g b g.length)
end Go.Proofs.Ytaljcpoopmedmaa.Ms
namespace Go.Proofs.Ytaljcpoopmedmaa.Ev
open Go Go.RowKit Go.Proofs.Ytaljcpoopmedmaa.Ms
set_option linter.all false
set_option maxRecDepth 100000
def qpg (a:Nat->SV):Nat->List Nat->List (List SV)
 | _,[]=>[]
 | j,t::es=>[si t,a j]::qpg a (j+1) es
def qph (a:Nat->SV):List Nat->SV
 | []=>.nilSlice
 | t::es=>.lst (qpg a 0 (t::es))
def j76 (ps is:Nat->SV) (ags:Nat->Nat->SV):Nat->List (List Nat)->List (List SV)
 | _,[]=>[]
 | k,es::g=>[ps k,is k,qph (ags k) es]::j76 ps is ags (k+1) g
def qpi (g:List (List Nat)) (v:SV) (ps is:Nat->SV) (ags:Nat->Nat->SV):List SV:=[v,.lst (j76 ps is ags 0 g)]
def jfl (n:Int):List SV:=[si n]
def j3i (o:List Nat) (i:List Int) (d:List Nat):List SV:=[jah jaz o,jah jfl i,jah jaz d]
def jui (l:List Nat):List SV:=[jah jaz l]
noncomputable def qm7 (fn:FuncId) (extra:List AV) (g:List (List Nat)) (v:SV) (ps is:Nat->SV) (ags:Nat->Nat->SV):Option AV :=
 ob (jnd F7 3000 fn (.agg (qpi g v ps is ags)::extra) h0) (fun p=>jhf true p.2 9 p.1)
theorem jkh {fn:FuncId} {extra:List AV} {g:List (List Nat)} {v:SV} {ps is:Nat->SV} {ags:Nat->Nat->SV} {u:AV} (h:qm7 fn extra g v ps is ags=some u):joi true F7 fn (.agg (qpi g v ps is ags)::extra) u:=by
 obtain ⟨p,h1,h2⟩:=jab.1 h
 exact ⟨3000,p.1,p.2,h1,9,h2⟩
def oG (s:List Bool):Prop:=∀ (v:SV) (ps is:Nat->SV) (ags:Nat->Nat->SV),qm7 38 [] (gS s) v ps is ags=some (.s (jah jaz (jp0 s 0)))
def nG (s:List Bool):Prop:=∀ (v:SV) (ps is:Nat->SV) (ags:Nat->Nat->SV),qm7 39 [] (gS s) v ps is ags=some (.s (jah jui (jqj (gS s))))
def iG (s:List Bool):Prop:=∀ (v:SV) (ps is:Nat->SV) (ags:Nat->Nat->SV),qm7 41 [.s (jah jaz (jp0 s 0))] (gS s) v ps is ags=some (.s (jah jfl (jbd s)))
def tG (s:List Bool):Prop:=∀ (v:SV) (ps is:Nat->SV) (ags:Nat->Nat->SV),qm7 42 [] (gS s) v ps is ags=some (.agg (j3i (jp0 s 0) (jbd s) (j86 s)))
end Go.Proofs.Ytaljcpoopmedmaa.Ev

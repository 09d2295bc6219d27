/- Graphs of functions built of pieces: shapes, and what is told of them. No program in sight. -/
import Derived.Test.YtehhjbfmjdlcjaaVd
import Derived.Test.YtehhjbfmjdlcjaaOr
namespace Go.Proofs.Ytehhjbfmjdlcjaa.Ms
set_option linter.all false
def j5m (g:List (List Nat)) (b:Bool):List (List Nat) :=
 let a:=g.length
 match b with
 | false=>g.modify (a - 1) (·++[a,a+1])++[[a+2],[a+2],[]]
 | true=>g.modify (a - 1) (·++[a])++[[a+1,a+2],[a],[]]
def gS (s:List Bool):List (List Nat):=s.foldl j5m [[]]
def jku:List Bool->Nat->List Nat
 | [],c=>[c]
 | false::s,c=>c::(c+2)::(c+1)::jku s (c+3)
 | true::s,c=>c::(c+1)::(jku s (c+3)++[c+2])
def jkd:List Bool->Nat->List Int
 | [],_=>[]
 | false::s,c=>(c:Int)::c::c::jkd s (c+3)
 | true::s,c=>(c:Int)::(c+1:Nat)::(c+1:Nat)::jkd s (c+3)
def jed (s:List Bool):List Int:=-1::jkd s 0
def qwx:List Bool->List Nat
 | []=>[]
 | false::s=>0::0::0::qwx s
 | true::s=>1::1::0::qwx s
def qlg (s:List Bool):List Nat:=0::qwx s
def qsc (g:List (List Nat)) (b:Nat):Nat->List Nat
 | 0=>[]
 | k+1=>qsc g b k++((g.getD k []).filter (fun x=>x == b)).map (fun _=>k)
def jqu (g:List (List Nat)):List (List Nat):=(List.range g.length).map (fun b=>qsc g b g.length)
end Go.Proofs.Ytehhjbfmjdlcjaa.Ms
namespace Go.Proofs.Ytehhjbfmjdlcjaa.Ev
open Go Go.RowKit Go.Proofs.Ytehhjbfmjdlcjaa.Ms
set_option linter.all false
set_option maxRecDepth 100000
def qu0 (a:Nat->SV):Nat->List Nat->List (List SV)
 | _,[]=>[]
 | j,t::es=>[si t,a j]::qu0 a (j+1) es
def qu1 (a:Nat->SV):List Nat->SV
 | []=>.nilSlice
 | t::es=>.lst (qu0 a 0 (t::es))
def qa6 (ps is:Nat->SV) (ags:Nat->Nat->SV):Nat->List (List Nat)->List (List SV)
 | _,[]=>[]
 | k,es::g=>[ps k,is k,qu1 (ags k) es]::qa6 ps is ags (k+1) g
def qu2 (g:List (List Nat)) (v:SV) (ps is:Nat->SV) (ags:Nat->Nat->SV):List SV:=[v,.lst (qa6 ps is ags 0 g)]
def jke (n:Int):List SV:=[si n]
def j5n (o:List Nat) (i:List Int) (d:List Nat):List SV:=[jae jal o,jae jke i,jae jal d]
def jvc (l:List Nat):List SV:=[jae jal l]
noncomputable def qsd (fn:FuncId) (extra:List AV) (g:List (List Nat)) (v:SV) (ps is:Nat->SV) (ags:Nat->Nat->SV):Option AV :=
 ob (jmm F7 3000 fn (.agg (qu2 g v ps is ags)::extra) h0) (fun p=>jgd true p.2 9 p.1)
theorem jkf {fn:FuncId} {extra:List AV} {g:List (List Nat)} {v:SV} {ps is:Nat->SV} {ags:Nat->Nat->SV} {u:AV} (h:qsd fn extra g v ps is ags=some u):jol true F7 fn (.agg (qu2 g v ps is ags)::extra) u:=by
 obtain⟨p,h1,h2⟩:=jaa.1 h
 exact⟨3000,p.1,p.2,h1,9,h2⟩
def oG (s:List Bool):Prop:=∀ (v:SV) (ps is:Nat->SV) (ags:Nat->Nat->SV),qsd 34 [] (gS s) v ps is ags=some (.s (jae jal (jku s 0)))
def nG (s:List Bool):Prop:=∀ (v:SV) (ps is:Nat->SV) (ags:Nat->Nat->SV),qsd 35 [] (gS s) v ps is ags=some (.s (jae jvc (jqu (gS s))))
def iG (s:List Bool):Prop:=∀ (v:SV) (ps is:Nat->SV) (ags:Nat->Nat->SV),qsd 37 [.s (jae jal (jku s 0))] (gS s) v ps is ags=some (.s (jae jke (jed s)))
def tG (s:List Bool):Prop:=∀ (v:SV) (ps is:Nat->SV) (ags:Nat->Nat->SV),qsd 25 [] (gS s) v ps is ags=some (.agg (j5n (jku s 0) (jed s) (qlg s)))
end Go.Proofs.Ytehhjbfmjdlcjaa.Ev

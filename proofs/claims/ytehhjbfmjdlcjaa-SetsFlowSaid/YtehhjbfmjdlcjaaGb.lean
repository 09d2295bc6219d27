/- Graphs of functions built of pieces: shapes, and what is told of them. No program in sight. -/
import Derived.Test.YtehhjbfmjdlcjaaVd
import Derived.Test.YtehhjbfmjdlcjaaTz
namespace Go.Proofs.Ytehhjbfmjdlcjaa.Ms
set_option linter.all false
def j4p (g:List (List Nat)) (b:Bool):List (List Nat) :=
 let a:=g.length
 match b with
 | false=>g.modify (a - 1) (·++[a,a+1])++[[a+2],[a+2],[]]
 | true=>g.modify (a - 1) (·++[a])++[[a+1,a+2],[a],[]]
def gS (s:List Bool):List (List Nat):=s.foldl j4p [[]]
def jki:List Bool->Nat->List Nat
 | [],c=>[c]
 | false::s,c=>c::(c+2)::(c+1)::jki s (c+3)
 | true::s,c=>c::(c+1)::(jki s (c+3)++[c+2])
def jj4:List Bool->Nat->List Int
 | [],_=>[]
 | false::s,c=>(c:Int)::c::c::jj4 s (c+3)
 | true::s,c=>(c:Int)::(c+1:Nat)::(c+1:Nat)::jj4 s (c+3)
def jc5 (s:List Bool):List Int:=-1::jj4 s 0
def qu6:List Bool->List Nat
 | []=>[]
 | false::s=>0::0::0::qu6 s
 | true::s=>1::1::0::qu6 s
def qj5 (s:List Bool):List Nat:=0::qu6 s
def qqu (g:List (List Nat)) (b:Nat):Nat->List Nat
 | 0=>[]
 | k+1=>qqu g b k++((g.getD k []).filter (fun x=>x == b)).map (fun _=>k)
def jqh (g:List (List Nat)):List (List Nat):=(List.range g.length).map (fun b=>qqu g b g.length)
end Go.Proofs.Ytehhjbfmjdlcjaa.Ms
namespace Go.Proofs.Ytehhjbfmjdlcjaa.Ev
open Go Go.RowKit Go.Proofs.Ytehhjbfmjdlcjaa.Ms
set_option linter.all false
set_option maxRecDepth 100000
def qtl (a:Nat->SV):Nat->List Nat->List (List SV)
 | _,[]=>[]
 | j,t::es=>[si t,a j]::qtl a (j+1) es
def qtm (a:Nat->SV):List Nat->SV
 | []=>.nilSlice
 | t::es=>.lst (qtl a 0 (t::es))
def j93 (ps is:Nat->SV) (ags:Nat->Nat->SV):Nat->List (List Nat)->List (List SV)
 | _,[]=>[]
 | k,es::g=>[ps k,is k,qtm (ags k) es]::j93 ps is ags (k+1) g
def qtn (g:List (List Nat)) (v:SV) (ps is:Nat->SV) (ags:Nat->Nat->SV):List SV:=[v,.lst (j93 ps is ags 0 g)]
def jj5 (n:Int):List SV:=[si n]
def j4q (o:List Nat) (i:List Int) (d:List Nat):List SV:=[jah jaq o,jah jj5 i,jah jaq d]
def juy (l:List Nat):List SV:=[jah jaq l]
noncomputable def qqv (fn:FuncId) (extra:List AV) (g:List (List Nat)) (v:SV) (ps is:Nat->SV) (ags:Nat->Nat->SV):Option AV :=
 ob (jm8 F7 3000 fn (.agg (qtn g v ps is ags)::extra) h0) (fun p=>jgr true p.2 9 p.1)
theorem jj6 {fn:FuncId} {extra:List AV} {g:List (List Nat)} {v:SV} {ps is:Nat->SV} {ags:Nat->Nat->SV} {u:AV} (h:qqv fn extra g v ps is ags=some u):joc true F7 fn (.agg (qtn g v ps is ags)::extra) u:=by
 obtain⟨p,h1,h2⟩:=jac.1 h
 exact⟨3000,p.1,p.2,h1,9,h2⟩
def oG (s:List Bool):Prop:=∀ (v:SV) (ps is:Nat->SV) (ags:Nat->Nat->SV),qqv 34 [] (gS s) v ps is ags=some (.s (jah jaq (jki s 0)))
def nG (s:List Bool):Prop:=∀ (v:SV) (ps is:Nat->SV) (ags:Nat->Nat->SV),qqv 35 [] (gS s) v ps is ags=some (.s (jah juy (jqh (gS s))))
def iG (s:List Bool):Prop:=∀ (v:SV) (ps is:Nat->SV) (ags:Nat->Nat->SV),qqv 37 [.s (jah jaq (jki s 0))] (gS s) v ps is ags=some (.s (jah jj5 (jc5 s)))
def tG (s:List Bool):Prop:=∀ (v:SV) (ps is:Nat->SV) (ags:Nat->Nat->SV),qqv 25 [] (gS s) v ps is ags=some (.agg (j4q (jki s 0) (jc5 s) (qj5 s)))
end Go.Proofs.Ytehhjbfmjdlcjaa.Ev

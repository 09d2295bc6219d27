/- Graphs of functions built of pieces: shapes, and what is told of them. No program in sight. -/
import Derived.Test.YtaljcpoopmedmaaVd
import Derived.Test.YtaljcpoopmedmaaSl
namespace Go.Proofs.Ytaljcpoopmedmaa.Ms
set_option linter.all false
def j3h (g:List (List Nat)) (b:Bool):List (List Nat) :=
 let a:=g.length
 match b with
 | false=>g.modify (a - 1) (·++[a,a+1])++[[a+2],[a+2],[]]
 | true=>g.modify (a - 1) (·++[a])++[[a+1,a+2],[a],[]]
def gS (s:List Bool):List (List Nat):=s.foldl j3h [[]]
def j10:List Bool->Nat->List Nat
 | [],c=>[c]
 | false::s,c=>c::(c+2)::(c+1)::j10 s (c+3)
 | true::s,c=>c::(c+1)::(j10 s (c+3)++[c+2])
def jkn:List Bool->Nat->List Int
 | [],_=>[]
 | false::s,c=>(c:Int)::c::c::jkn s (c+3)
 | true::s,c=>(c:Int)::(c+1:Nat)::(c+1:Nat)::jkn s (c+3)
def jib (s:List Bool):List Int:=-1::jkn s 0
def ql1 (g:List (List Nat)) (b:Nat):Nat->List Nat
 | 0=>[]
 | k+1=>ql1 g b k++((g.getD k []).filter (fun x=>x == b)).map (fun _=>k)
def jg1 (g:List (List Nat)):List (List Nat):=(List.range g.length).map (fun b=>ql1 g b g.length)
end Go.Proofs.Ytaljcpoopmedmaa.Ms
namespace Go.Proofs.Ytaljcpoopmedmaa.Ev
open Go Go.RowKit Go.Proofs.Ytaljcpoopmedmaa.Ms
set_option linter.all false
set_option maxRecDepth 100000
def qob (a:Nat->SV):Nat->List Nat->List (List SV)
 | _,[]=>[]
 | j,t::es=>[si t,a j]::qob a (j+1) es
def qoc (a:Nat->SV):List Nat->SV
 | []=>.nilSlice
 | t::es=>.lst (qob a 0 (t::es))
def j79 (ps is:Nat->SV) (ags:Nat->Nat->SV):Nat->List (List Nat)->List (List SV)
 | _,[]=>[]
 | k,es::g=>[ps k,is k,qoc (ags k) es]::j79 ps is ags (k+1) g
def qod (g:List (List Nat)) (v:SV) (ps is:Nat->SV) (ags:Nat->Nat->SV):List SV:=[v,.lst (j79 ps is ags 0 g)]
def jmz (n:Int):List SV:=[si n]
def jgi (l:List Nat):List SV:=[jai ja0 l]
noncomputable def qgq (fn:FuncId) (extra:List AV) (g:List (List Nat)) (v:SV) (ps is:Nat->SV) (ags:Nat->Nat->SV):Option AV :=
 ob (jnm F7 3000 fn (.agg (qod g v ps is ags)::extra) h0) (fun p=>jhl true p.2 9 p.1)
theorem jic {fn:FuncId} {extra:List AV} {g:List (List Nat)} {v:SV} {ps is:Nat->SV} {ags:Nat->Nat->SV} {u:AV} (h:qgq fn extra g v ps is ags=some u):jjc true F7 fn (.agg (qod g v ps is ags)::extra) u:=by
 obtain ⟨p,h1,h2⟩:=jab.1 h
 exact ⟨3000,p.1,p.2,h1,9,h2⟩
def oG (s:List Bool):Prop:=∀ (v:SV) (ps is:Nat->SV) (ags:Nat->Nat->SV),qgq 38 [] (gS s) v ps is ags=some (.s (jai ja0 (j10 s 0)))
def nG (s:List Bool):Prop:=∀ (v:SV) (ps is:Nat->SV) (ags:Nat->Nat->SV),qgq 39 [] (gS s) v ps is ags=some (.s (jai jgi (jg1 (gS s))))
def iG (s:List Bool):Prop:=∀ (v:SV) (ps is:Nat->SV) (ags:Nat->Nat->SV),qgq 41 [.s (jai ja0 (j10 s 0))] (gS s) v ps is ags=some (.s (jai jmz (jib s)))
end Go.Proofs.Ytaljcpoopmedmaa.Ev

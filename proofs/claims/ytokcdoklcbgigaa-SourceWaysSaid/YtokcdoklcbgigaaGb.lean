/- Graphs of functions built of pieces: shapes, and what is told of them. No program in sight. -/
import Derived.Test.YtokcdoklcbgigaaVd
import Derived.Test.YtokcdoklcbgigaaSl
namespace Go.Proofs.Ytokcdoklcbgigaa.Ms
set_option linter.all false
def j46 (g:List (List Nat)) (b:Bool):List (List Nat) :=
 let a:=g.length
 match b with
 | false=>g.modify (a - 1) (·++[a,a+1])++[[a+2],[a+2],[]]
 | true=>g.modify (a - 1) (·++[a])++[[a+1,a+2],[a],[]]
def gS (s:List Bool):List (List Nat):=s.foldl j46 [[]]
def j47:List Bool->Nat->List Nat
 | [],c=>[c]
 | false::s,c=>c::(c+2)::(c+1)::j47 s (c+3)
 | true::s,c=>c::(c+1)::(j47 s (c+3)++[c+2])
def jkl:List Bool->Nat->List Int
 | [],_=>[]
 | false::s,c=>(c:Int)::c::c::jkl s (c+3)
 | true::s,c=>(c:Int)::(c+1:Nat)::(c+1:Nat)::jkl s (c+3)
def jif (s:List Bool):List Int:=-1::jkl s 0
def qpd (g:List (List Nat)) (b:Nat):Nat->List Nat
 | 0=>[]
 | k+1=>qpd g b k++((g.getD k []).filter (fun x=>x == b)).map (fun _=>k)
def jq3 (g:List (List Nat)):List (List Nat):=(List.range g.length).map (fun b=>qpd g b g.length)
end Go.Proofs.Ytokcdoklcbgigaa.Ms
namespace Go.Proofs.Ytokcdoklcbgigaa.Ev
open Go Go.RowKit Go.Proofs.Ytokcdoklcbgigaa.Ms
set_option linter.all false
set_option maxRecDepth 100000
def qrc (a:Nat->SV):Nat->List Nat->List (List SV)
 | _,[]=>[]
 | j,t::es=>[si t,a j]::qrc a (j+1) es
def qrd (a:Nat->SV):List Nat->SV
 | []=>.nilSlice
 | t::es=>.lst (qrc a 0 (t::es))
def j9x (ps is:Nat->SV) (ags:Nat->Nat->SV):Nat->List (List Nat)->List (List SV)
 | _,[]=>[]
 | k,es::g=>[ps k,is k,qrd (ags k) es]::j9x ps is ags (k+1) g
def qre (g:List (List Nat)) (v:SV) (ps is:Nat->SV) (ags:Nat->Nat->SV):List SV:=[v,.lst (j9x ps is ags 0 g)]
def jby (n:Int):List SV:=[si n]
def ju6 (l:List Nat):List SV:=[jah ja1 l]
noncomputable def qrf (fn:FuncId) (extra:List AV) (g:List (List Nat)) (v:SV) (ps is:Nat->SV) (ags:Nat->Nat->SV):Option AV :=
 ob (jnp F7 3000 fn (.agg (qre g v ps is ags)::extra) h0) (fun p=>jgb true p.2 9 p.1)
theorem jqi {fn:FuncId} {extra:List AV} {g:List (List Nat)} {v:SV} {ps is:Nat->SV} {ags:Nat->Nat->SV} {u:AV} (h:qrf fn extra g v ps is ags=some u):jou true F7 fn (.agg (qre g v ps is ags)::extra) u:=by
 obtain ⟨p,h1,h2⟩:=jac.1 h
 exact ⟨3000,p.1,p.2,h1,9,h2⟩
def oG (s:List Bool):Prop:=∀ (v:SV) (ps is:Nat->SV) (ags:Nat->Nat->SV),qrf 21 [] (gS s) v ps is ags=some (.s (jah ja1 (j47 s 0)))
def nG (s:List Bool):Prop:=∀ (v:SV) (ps is:Nat->SV) (ags:Nat->Nat->SV),qrf 22 [] (gS s) v ps is ags=some (.s (jah ju6 (jq3 (gS s))))
def iG (s:List Bool):Prop:=∀ (v:SV) (ps is:Nat->SV) (ags:Nat->Nat->SV),qrf 24 [.s (jah ja1 (j47 s 0))] (gS s) v ps is ags=some (.s (jah jby (jif s)))
end Go.Proofs.Ytokcdoklcbgigaa.Ev

/- Graphs of functions built of pieces: shapes, and what is told of them. No program in sight. -/
import Derived.Test.YtehhjbfmjdlcjaaVd
import Derived.Test.YtehhjbfmjdlcjaaSl
namespace Go.Proofs.Ytehhjbfmjdlcjaa.Ms
set_option linter.all false
def j3s (g:List (List Nat)) (b:Bool):List (List Nat) :=
 let a:=g.length
 match b with
 | false=>g.modify (a - 1) (·++[a,a+1])++[[a+2],[a+2],[]]
 | true=>g.modify (a - 1) (·++[a])++[[a+1,a+2],[a],[]]
def gS (s:List Bool):List (List Nat):=s.foldl j3s [[]]
def jqn:List Bool->Nat->List Nat
 | [],c=>[c]
 | false::s,c=>c::(c+2)::(c+1)::jqn s (c+3)
 | true::s,c=>c::(c+1)::(jqn s (c+3)++[c+2])
def jki:List Bool->Nat->List Int
 | [],_=>[]
 | false::s,c=>(c:Int)::c::c::jki s (c+3)
 | true::s,c=>(c:Int)::(c+1:Nat)::(c+1:Nat)::jki s (c+3)
def jem (s:List Bool):List Int:=-1::jki s 0
def qro:List Bool->List Nat
 | []=>[]
 | false::s=>0::0::0::qro s
 | true::s=>1::1::0::qro s
def jku (s:List Bool):List Nat:=0::qro s
def qnt (g:List (List Nat)) (b:Nat):Nat->List Nat
 | 0=>[]
 | k+1=>qnt g b k++((g.getD k []).filter (fun x=>x == b)).map (fun _=>k)
def jqo (g:List (List Nat)):List (List Nat):=(List.range g.length).map (fun b=>qnt g b g.length)
end Go.Proofs.Ytehhjbfmjdlcjaa.Ms
namespace Go.Proofs.Ytehhjbfmjdlcjaa.Ev
open Go Go.RowKit Go.Proofs.Ytehhjbfmjdlcjaa.Ms
set_option linter.all false
set_option maxRecDepth 100000
def qqb (a:Nat->SV):Nat->List Nat->List (List SV)
 | _,[]=>[]
 | j,t::es=>[si t,a j]::qqb a (j+1) es
def qqc (a:Nat->SV):List Nat->SV
 | []=>.nilSlice
 | t::es=>.lst (qqb a 0 (t::es))
def j8j (ps is:Nat->SV) (ags:Nat->Nat->SV):Nat->List (List Nat)->List (List SV)
 | _,[]=>[]
 | k,es::g=>[ps k,is k,qqc (ags k) es]::j8j ps is ags (k+1) g
def qqd (g:List (List Nat)) (v:SV) (ps is:Nat->SV) (ags:Nat->Nat->SV):List SV:=[v,.lst (j8j ps is ags 0 g)]
def jjl (n:Int):List SV:=[si n]
def jzx (o:List Nat) (i:List Int) (d:List Nat):List SV:=[jah jas o,jah jjl i,jah jas d]
def juq (l:List Nat):List SV:=[jah jas l]
noncomputable def qnu (fn:FuncId) (extra:List AV) (g:List (List Nat)) (v:SV) (ps is:Nat->SV) (ags:Nat->Nat->SV):Option AV :=
 ob (jnf F7 3000 fn (.agg (qqd g v ps is ags)::extra) h0) (fun p=>jhd true p.2 9 p.1)
theorem jkj {fn:FuncId} {extra:List AV} {g:List (List Nat)} {v:SV} {ps is:Nat->SV} {ags:Nat->Nat->SV} {u:AV} (h:qnu fn extra g v ps is ags=some u):jok true F7 fn (.agg (qqd g v ps is ags)::extra) u:=by
 obtain ⟨p,h1,h2⟩:=jab.1 h
 exact ⟨3000,p.1,p.2,h1,9,h2⟩
def oG (s:List Bool):Prop:=∀ (v:SV) (ps is:Nat->SV) (ags:Nat->Nat->SV),qnu 34 [] (gS s) v ps is ags=some (.s (jah jas (jqn s 0)))
def nG (s:List Bool):Prop:=∀ (v:SV) (ps is:Nat->SV) (ags:Nat->Nat->SV),qnu 35 [] (gS s) v ps is ags=some (.s (jah juq (jqo (gS s))))
def iG (s:List Bool):Prop:=∀ (v:SV) (ps is:Nat->SV) (ags:Nat->Nat->SV),qnu 37 [.s (jah jas (jqn s 0))] (gS s) v ps is ags=some (.s (jah jjl (jem s)))
def tG (s:List Bool):Prop:=∀ (v:SV) (ps is:Nat->SV) (ags:Nat->Nat->SV),qnu 25 [] (gS s) v ps is ags=some (.agg (jzx (jqn s 0) (jem s) (jku s)))
end Go.Proofs.Ytehhjbfmjdlcjaa.Ev

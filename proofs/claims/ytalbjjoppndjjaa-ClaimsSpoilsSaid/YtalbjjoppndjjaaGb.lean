/- Graphs of functions built of pieces: shapes, and what is told of them. No program in sight. -/
import Derived.Test.YtalbjjoppndjjaaVd
import Derived.Test.YtalbjjoppndjjaaSl
namespace Go.Proofs.Ytalbjjoppndjjaa.Ms
set_option linter.all false
def j39 (g:List (List Nat)) (b:Bool):List (List Nat) :=
 let a:=g.length
 match b with
 | false=>g.modify (a - 1) (·++[a,a+1])++[[a+2],[a+2],[]]
 | true=>g.modify (a - 1) (·++[a])++[[a+1,a+2],[a],[]]
def gS (s:List Bool):List (List Nat):=s.foldl j39 [[]]
def j87:List Bool->Nat->List Nat
 | [],c=>[c]
 | false::s,c=>c::(c+2)::(c+1)::j87 s (c+3)
 | true::s,c=>c::(c+1)::(j87 s (c+3)++[c+2])
def jkg:List Bool->Nat->List Int
 | [],_=>[]
 | false::s,c=>(c:Int)::c::c::jkg s (c+3)
 | true::s,c=>(c:Int)::(c+1:Nat)::(c+1:Nat)::jkg s (c+3)
def jgy (s:List Bool):List Int:=-1::jkg s 0
def qnz (g:List (List Nat)) (b:Nat):Nat->List Nat
 | 0=>[]
 | k+1=>qnz g b k++((g.getD k []).filter (fun x=>x == b)).map (fun _=>k)
def j4a (g:List (List Nat)):List (List Nat):=(List.range g.length).map (fun b=>qnz g b g.length)
end Go.Proofs.Ytalbjjoppndjjaa.Ms
namespace Go.Proofs.Ytalbjjoppndjjaa.Ev
open Go Go.RowKit Go.Proofs.Ytalbjjoppndjjaa.Ms
set_option linter.all false
set_option maxRecDepth 100000
def qqh (a:Nat->SV):Nat->List Nat->List (List SV)
 | _,[]=>[]
 | j,t::es=>[si t,a j]::qqh a (j+1) es
def qqi (a:Nat->SV):List Nat->SV
 | []=>.nilSlice
 | t::es=>.lst (qqh a 0 (t::es))
def j88 (ps is:Nat->SV) (ags:Nat->Nat->SV):Nat->List (List Nat)->List (List SV)
 | _,[]=>[]
 | k,es::g=>[ps k,is k,qqi (ags k) es]::j88 ps is ags (k+1) g
def qqj (g:List (List Nat)) (v:SV) (ps is:Nat->SV) (ags:Nat->Nat->SV):List SV:=[v,.lst (j88 ps is ags 0 g)]
def jkw (n:Int):List SV:=[si n]
def jqs (l:List Nat):List SV:=[jae jat l]
noncomputable def qqk (fn:FuncId) (extra:List AV) (g:List (List Nat)) (v:SV) (ps is:Nat->SV) (ags:Nat->Nat->SV):Option AV :=
 ob (jih F7 3000 fn (.agg (qqj g v ps is ags)::extra) h0) (fun p=>jgm true p.2 9 p.1)
theorem jp7 {fn:FuncId} {extra:List AV} {g:List (List Nat)} {v:SV} {ps is:Nat->SV} {ags:Nat->Nat->SV} {u:AV} (h:qqk fn extra g v ps is ags=some u):jmq true F7 fn (.agg (qqj g v ps is ags)::extra) u:=by
 obtain⟨p,h1,h2⟩:=jaa.1 h
 exact⟨3000,p.1,p.2,h1,9,h2⟩
def oG (s:List Bool):Prop:=∀ (v:SV) (ps is:Nat->SV) (ags:Nat->Nat->SV),qqk 21 [] (gS s) v ps is ags=some (.s (jae jat (j87 s 0)))
def nG (s:List Bool):Prop:=∀ (v:SV) (ps is:Nat->SV) (ags:Nat->Nat->SV),qqk 22 [] (gS s) v ps is ags=some (.s (jae jqs (j4a (gS s))))
def iG (s:List Bool):Prop:=∀ (v:SV) (ps is:Nat->SV) (ags:Nat->Nat->SV),qqk 24 [.s (jae jat (j87 s 0))] (gS s) v ps is ags=some (.s (jae jkw (jgy s)))
end Go.Proofs.Ytalbjjoppndjjaa.Ev

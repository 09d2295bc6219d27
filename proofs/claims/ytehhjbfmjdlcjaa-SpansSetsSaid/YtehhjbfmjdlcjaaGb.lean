/- Graphs of functions built of pieces: shapes, and what is told of them. No program in sight. -/
import Derived.Test.YtehhjbfmjdlcjaaVd
import Derived.Test.YtehhjbfmjdlcjaaOr
namespace Go.Proofs.Ytehhjbfmjdlcjaa.Ms
set_option linter.all false
def j5r (g:List (List Nat)) (b:Bool):List (List Nat) :=
 let a:=g.length
 match b with
 | false=>g.modify (a - 1) (·++[a,a+1])++[[a+2],[a+2],[]]
 | true=>g.modify (a - 1) (·++[a])++[[a+1,a+2],[a],[]]
def gS (s:List Bool):List (List Nat):=s.foldl j5r [[]]
def jk1:List Bool->Nat->List Nat
 | [],c=>[c]
 | false::s,c=>c::(c+2)::(c+1)::jk1 s (c+3)
 | true::s,c=>c::(c+1)::(jk1 s (c+3)++[c+2])
def jkk:List Bool->Nat->List Int
 | [],_=>[]
 | false::s,c=>(c:Int)::c::c::jkk s (c+3)
 | true::s,c=>(c:Int)::(c+1:Nat)::(c+1:Nat)::jkk s (c+3)
def jed (s:List Bool):List Int:=-1::jkk s 0
def qw1:List Bool->List Nat
 | []=>[]
 | false::s=>0::0::0::qw1 s
 | true::s=>1::1::0::qw1 s
def qll (s:List Bool):List Nat:=0::qw1 s
def qsh (g:List (List Nat)) (b:Nat):Nat->List Nat
 | 0=>[]
 | k+1=>qsh g b k++((g.getD k []).filter (fun x=>x == b)).map (fun _=>k)
def jq1 (g:List (List Nat)):List (List Nat):=(List.range g.length).map (fun b=>qsh g b g.length)
end Go.Proofs.Ytehhjbfmjdlcjaa.Ms
namespace Go.Proofs.Ytehhjbfmjdlcjaa.Ev
open Go Go.RowKit Go.Proofs.Ytehhjbfmjdlcjaa.Ms
set_option linter.all false
set_option maxRecDepth 100000
def qu5 (a:Nat->SV):Nat->List Nat->List (List SV)
 | _,[]=>[]
 | j,t::es=>[si t,a j]::qu5 a (j+1) es
def qu6 (a:Nat->SV):List Nat->SV
 | []=>.nilSlice
 | t::es=>.lst (qu5 a 0 (t::es))
def qbb (ps is:Nat->SV) (ags:Nat->Nat->SV):Nat->List (List Nat)->List (List SV)
 | _,[]=>[]
 | k,es::g=>[ps k,is k,qu6 (ags k) es]::qbb ps is ags (k+1) g
def qu7 (g:List (List Nat)) (v:SV) (ps is:Nat->SV) (ags:Nat->Nat->SV):List SV:=[v,.lst (qbb ps is ags 0 g)]
def jkl (n:Int):List SV:=[si n]
def j5s (o:List Nat) (i:List Int) (d:List Nat):List SV:=[jae jal o,jae jkl i,jae jal d]
def jvi (l:List Nat):List SV:=[jae jal l]
noncomputable def qsi (fn:FuncId) (extra:List AV) (g:List (List Nat)) (v:SV) (ps is:Nat->SV) (ags:Nat->Nat->SV):Option AV :=
 ob (jmt F7 3000 fn (.agg (qu7 g v ps is ags)::extra) h0) (fun p=>jgd true p.2 9 p.1)
theorem jkm {fn:FuncId} {extra:List AV} {g:List (List Nat)} {v:SV} {ps is:Nat->SV} {ags:Nat->Nat->SV} {u:AV} (h:qsi fn extra g v ps is ags=some u):jos true F7 fn (.agg (qu7 g v ps is ags)::extra) u:=by
 obtain⟨p,h1,h2⟩:=jaa.1 h
 exact⟨3000,p.1,p.2,h1,9,h2⟩
def oG (s:List Bool):Prop:=∀ (v:SV) (ps is:Nat->SV) (ags:Nat->Nat->SV),qsi 34 [] (gS s) v ps is ags=some (.s (jae jal (jk1 s 0)))
def nG (s:List Bool):Prop:=∀ (v:SV) (ps is:Nat->SV) (ags:Nat->Nat->SV),qsi 35 [] (gS s) v ps is ags=some (.s (jae jvi (jq1 (gS s))))
def iG (s:List Bool):Prop:=∀ (v:SV) (ps is:Nat->SV) (ags:Nat->Nat->SV),qsi 37 [.s (jae jal (jk1 s 0))] (gS s) v ps is ags=some (.s (jae jkl (jed s)))
def tG (s:List Bool):Prop:=∀ (v:SV) (ps is:Nat->SV) (ags:Nat->Nat->SV),qsi 25 [] (gS s) v ps is ags=some (.agg (j5s (jk1 s 0) (jed s) (qll s)))
end Go.Proofs.Ytehhjbfmjdlcjaa.Ev

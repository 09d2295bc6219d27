/- Graphs of functions built of pieces: shapes, and what is told of them. No program in sight. -/
import Derived.Test.YtehhjbfmjdlcjaaVd
import Derived.Test.YtehhjbfmjdlcjaaOr
namespace Go.Proofs.Ytehhjbfmjdlcjaa.Ms
set_option linter.all false
def j5z (g:List (List Nat)) (b:Bool):List (List Nat) :=
 let a:=g.length
 match b with
 | false=>g.modify (a - 1) (·++[a,a+1])++[[a+2],[a+2],[]]
 | true=>g.modify (a - 1) (·++[a])++[[a+1,a+2],[a],[]]
def gS (s:List Bool):List (List Nat):=s.foldl j5z [[]]
def jkk:List Bool->Nat->List Nat
 | [],c=>[c]
 | false::s,c=>c::(c+2)::(c+1)::jkk s (c+3)
 | true::s,c=>c::(c+1)::(jkk s (c+3)++[c+2])
def jkl:List Bool->Nat->List Int
 | [],_=>[]
 | false::s,c=>(c:Int)::c::c::jkl s (c+3)
 | true::s,c=>(c:Int)::(c+1:Nat)::(c+1:Nat)::jkl s (c+3)
def jeb (s:List Bool):List Int:=-1::jkl s 0
def qxl:List Bool->List Nat
 | []=>[]
 | false::s=>0::0::0::qxl s
 | true::s=>1::1::0::qxl s
def qh2 (s:List Bool):List Nat:=0::qxl s
def qs1 (g:List (List Nat)) (b:Nat):Nat->List Nat
 | 0=>[]
 | k+1=>qs1 g b k++((g.getD k []).filter (fun x=>x == b)).map (fun _=>k)
def jq8 (g:List (List Nat)):List (List Nat):=(List.range g.length).map (fun b=>qs1 g b g.length)
end Go.Proofs.Ytehhjbfmjdlcjaa.Ms
namespace Go.Proofs.Ytehhjbfmjdlcjaa.Ev
open Go Go.RowKit Go.Proofs.Ytehhjbfmjdlcjaa.Ms
set_option linter.all false
set_option maxRecDepth 100000
def qvo (a:Nat->SV):Nat->List Nat->List (List SV)
 | _,[]=>[]
 | j,t::es=>[si t,a j]::qvo a (j+1) es
def qvp (a:Nat->SV):List Nat->SV
 | []=>.nilSlice
 | t::es=>.lst (qvo a 0 (t::es))
def qbl (ps is:Nat->SV) (ags:Nat->Nat->SV):Nat->List (List Nat)->List (List SV)
 | _,[]=>[]
 | k,es::g=>[ps k,is k,qvp (ags k) es]::qbl ps is ags (k+1) g
def qvq (g:List (List Nat)) (v:SV) (ps is:Nat->SV) (ags:Nat->Nat->SV):List SV:=[v,.lst (qbl ps is ags 0 g)]
def jjd (n:Int):List SV:=[si n]
def j04 (o:List Nat) (i:List Int) (d:List Nat):List SV:=[jae jal o,jae jjd i,jae jal d]
def jvl (l:List Nat):List SV:=[jae jal l]
noncomputable def qs2 (fn:FuncId) (extra:List AV) (g:List (List Nat)) (v:SV) (ps is:Nat->SV) (ags:Nat->Nat->SV):Option AV :=
 ob (jmv F7 3000 fn (.agg (qvq g v ps is ags)::extra) h0) (fun p=>jf2 true p.2 9 p.1)
theorem jkm {fn:FuncId} {extra:List AV} {g:List (List Nat)} {v:SV} {ps is:Nat->SV} {ags:Nat->Nat->SV} {u:AV} (h:qs2 fn extra g v ps is ags=some u):joy true F7 fn (.agg (qvq g v ps is ags)::extra) u:=by
 obtain⟨p,h1,h2⟩:=jaa.1 h
 exact⟨3000,p.1,p.2,h1,9,h2⟩
def oG (s:List Bool):Prop:=∀ (v:SV) (ps is:Nat->SV) (ags:Nat->Nat->SV),qs2 34 [] (gS s) v ps is ags=some (.s (jae jal (jkk s 0)))
def nG (s:List Bool):Prop:=∀ (v:SV) (ps is:Nat->SV) (ags:Nat->Nat->SV),qs2 35 [] (gS s) v ps is ags=some (.s (jae jvl (jq8 (gS s))))
def iG (s:List Bool):Prop:=∀ (v:SV) (ps is:Nat->SV) (ags:Nat->Nat->SV),qs2 37 [.s (jae jal (jkk s 0))] (gS s) v ps is ags=some (.s (jae jjd (jeb s)))
def tG (s:List Bool):Prop:=∀ (v:SV) (ps is:Nat->SV) (ags:Nat->Nat->SV),qs2 25 [] (gS s) v ps is ags=some (.agg (j04 (jkk s 0) (jeb s) (qh2 s)))
end Go.Proofs.Ytehhjbfmjdlcjaa.Ev

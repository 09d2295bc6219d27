/- Graphs of functions built of pieces: shapes, and what is told of them. No program in sight. -/
import Derived.Test.YtdbklpgagdbpiaaDoorVd
import Derived.Test.YtdbklpgagdbpiaaDoorSl
namespace Go.Proofs.YtdbklpgagdbpiaaDoor.Ms
set_option linter.all false
def j52 (g:List (List Nat)) (b:Bool):List (List Nat) :=
 let a:=g.length
 match b with
 | false=>g.modify (a - 1) (·++[a,a+1])++[[a+2],[a+2],[]]
 | true=>g.modify (a - 1) (·++[a])++[[a+1,a+2],[a],[]]
def gS (s:List Bool):List (List Nat):=s.foldl j52 [[]]
def qa0:List Bool->Nat->List Nat
 | [],c=>[c]
 | false::s,c=>c::(c+2)::(c+1)::qa0 s (c+3)
 | true::s,c=>c::(c+1)::(qa0 s (c+3)++[c+2])
def jlg:List Bool->Nat->List Int
 | [],_=>[]
 | false::s,c=>(c:Int)::c::c::jlg s (c+3)
 | true::s,c=>(c:Int)::(c+1:Nat)::(c+1:Nat)::jlg s (c+3)
def jh0 (s:List Bool):List Int:=-1::jlg s 0
def qqs (g:List (List Nat)) (b:Nat):Nat->List Nat
 | 0=>[]
 | k+1=>qqs g b k++((g.getD k []).filter (fun x=>x == b)).map (fun _=>k)
def j53 (g:List (List Nat)):List (List Nat):=(List.range g.length).map (fun b=>qqs g b g.length)
end Go.Proofs.YtdbklpgagdbpiaaDoor.Ms
namespace Go.Proofs.YtdbklpgagdbpiaaDoor.Ev
open Go Go.RowKit Go.Proofs.YtdbklpgagdbpiaaDoor.Ms
set_option linter.all false
set_option maxRecDepth 100000
def qsv (a:Nat->SV):Nat->List Nat->List (List SV)
 | _,[]=>[]
 | j,t::es=>[si t,a j]::qsv a (j+1) es
def qsw (a:Nat->SV):List Nat->SV
 | []=>.nilSlice
 | t::es=>.lst (qsv a 0 (t::es))
def qa1 (ps is:Nat->SV) (ags:Nat->Nat->SV):Nat->List (List Nat)->List (List SV)
 | _,[]=>[]
 | k,es::g=>[ps k,is k,qsw (ags k) es]::qa1 ps is ags (k+1) g
def qsx (g:List (List Nat)) (v:SV) (ps is:Nat->SV) (ags:Nat->Nat->SV):List SV:=[v,.lst (qa1 ps is ags 0 g)]
def jlv (n:Int):List SV:=[si n]
def jr6 (l:List Nat):List SV:=[jae jaz l]
noncomputable def qsy (fn:FuncId) (extra:List AV) (g:List (List Nat)) (v:SV) (ps is:Nat->SV) (ags:Nat->Nat->SV):Option AV :=
 ob (jou F7 3000 fn (.agg (qsx g v ps is ags)::extra) h0) (fun p=>jhz true p.2 9 p.1)
theorem jrj {fn:FuncId} {extra:List AV} {g:List (List Nat)} {v:SV} {ps is:Nat->SV} {ags:Nat->Nat->SV} {u:AV} (h:qsy fn extra g v ps is ags=some u):jp2 true F7 fn (.agg (qsx g v ps is ags)::extra) u:=by
 obtain⟨p,h1,h2⟩:=jaa.1 h
 exact⟨3000,p.1,p.2,h1,9,h2⟩
def oG (s:List Bool):Prop:=∀ (v:SV) (ps is:Nat->SV) (ags:Nat->Nat->SV),qsy 29 [] (gS s) v ps is ags=some (.s (jae jaz (qa0 s 0)))
def nG (s:List Bool):Prop:=∀ (v:SV) (ps is:Nat->SV) (ags:Nat->Nat->SV),qsy 30 [] (gS s) v ps is ags=some (.s (jae jr6 (j53 (gS s))))
def iG (s:List Bool):Prop:=∀ (v:SV) (ps is:Nat->SV) (ags:Nat->Nat->SV),qsy 32 [.s (jae jaz (qa0 s 0))] (gS s) v ps is ags=some (.s (jae jlv (jh0 s)))
end Go.Proofs.YtdbklpgagdbpiaaDoor.Ev

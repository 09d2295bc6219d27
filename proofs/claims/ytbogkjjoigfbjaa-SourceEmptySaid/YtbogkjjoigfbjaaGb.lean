/- Graphs of functions built of pieces: shapes, and what is told of them. No program in sight. -/
import Derived.Test.YtbogkjjoigfbjaaVd
import Derived.Test.YtbogkjjoigfbjaaOr
namespace Go.Proofs.Ytbogkjjoigfbjaa.Ms
set_option linter.all false
def j2n (g:List (List Nat)) (b:Bool):List (List Nat) :=
 let a:=g.length
 match b with
 | false=>g.modify (a - 1) (·++[a,a+1])++[[a+2],[a+2],[]]
 | true=>g.modify (a - 1) (·++[a])++[[a+1,a+2],[a],[]]
def gS (s:List Bool):List (List Nat):=s.foldl j2n [[]]
def j8b (g:List (List Nat)) (b:Nat):Nat->List Nat
 | 0=>[]
 | k+1=>j8b g b k++((g.getD k []).filter (fun x=>x == b)).map (fun _=>k)
def qai (g:List (List Nat)):List (List Nat):=(List.range g.length).map (fun b=>j8b g b g.length)
end Go.Proofs.Ytbogkjjoigfbjaa.Ms
namespace Go.Proofs.Ytbogkjjoigfbjaa.Ev
open Go Go.RowKit Go.Proofs.Ytbogkjjoigfbjaa.Ms
set_option linter.all false
set_option maxRecDepth 100000
def qa6 (a:Nat->SV):Nat->List Nat->List (List SV)
 | _,[]=>[]
 | j,t::es=>[si t,a j]::qa6 a (j+1) es
def qby (a:Nat->SV):List Nat->SV
 | []=>.nilSlice
 | t::es=>.lst (qa6 a 0 (t::es))
def j8c (ps is:Nat->SV) (ags:Nat->Nat->SV):Nat->List (List Nat)->List (List SV)
 | _,[]=>[]
 | k,es::g=>[ps k,is k,qby (ags k) es]::j8c ps is ags (k+1) g
def qbz (g:List (List Nat)) (v:SV) (ps is:Nat->SV) (ags:Nat->Nat->SV):List SV:=[v,.lst (j8c ps is ags 0 g)]
def jco (n:Int):List SV:=[si n]
def qaj (l:List Nat):List SV:=[jbj jgy l]
noncomputable def qb0 (fn:FuncId) (extra:List AV) (g:List (List Nat)) (v:SV) (ps is:Nat->SV) (ags:Nat->Nat->SV):Option AV :=
 ob (jgd F7 3000 fn (.agg (qbz g v ps is ags)::extra) h0) (fun p=>jib true p.2 9 p.1)
def nG (s:List Bool):Prop:=∀ (v:SV) (ps is:Nat->SV) (ags:Nat->Nat->SV),qb0 24 [] (gS s) v ps is ags=some (.s (jbj qaj (qai (gS s))))
end Go.Proofs.Ytbogkjjoigfbjaa.Ev

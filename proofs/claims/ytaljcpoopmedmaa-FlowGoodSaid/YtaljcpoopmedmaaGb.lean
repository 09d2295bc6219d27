/- Graphs of functions built of pieces: shapes, and what is told of them. No program in sight. -/
import Derived.Test.YtaljcpoopmedmaaVd
import Derived.Test.YtaljcpoopmedmaaSl
namespace Go.Proofs.Ytaljcpoopmedmaa.Ms
set_option linter.all false
def j30 (g:List (List Nat)) (b:Bool):List (List Nat) :=
 let a:=g.length
 match b with
 | false=>g.modify (a - 1) (·++[a,a+1])++[[a+2],[a+2],[]]
 | true=>g.modify (a - 1) (·++[a])++[[a+1,a+2],[a],[]]
def gS (s:List Bool):List (List Nat):=s.foldl j30 [[]]
def jen:List Bool->Nat->List Nat
 | [],c=>[c]
 | false::s,c=>c::(c+2)::(c+1)::jen s (c+3)
 | true::s,c=>c::(c+1)::(jen s (c+3)++[c+2])
def jkp:List Bool->Nat->List Int
 | [],_=>[]
 | false::s,c=>(c:Int)::c::c::jkp s (c+3)
 | true::s,c=>(c:Int)::(c+1:Nat)::(c+1:Nat)::jkp s (c+3)
def jbf (s:List Bool):List Int:=-1::jkp s 0
def qru:List Bool->List Nat
 | []=>[]
 | false::s=>0::0::0::qru s
 | true::s=>1::1::0::qru s
def ji5 (s:List Bool):List Nat:=0::qru s
def qn4 (g:List (List Nat)) (b:Nat):Nat->List Nat
 | 0=>[]
 | k+1=>qn4 g b k++((g.getD k []).filter (fun x=>x == b)).map (fun _=>k)
def jqt (g:List (List Nat)):List (List Nat):=(List.range g.length).map (fun b=>qn4 g b g.length)
end Go.Proofs.Ytaljcpoopmedmaa.Ms
namespace Go.Proofs.Ytaljcpoopmedmaa.Ev
open Go Go.RowKit Go.Proofs.Ytaljcpoopmedmaa.Ms
set_option linter.all false
set_option maxRecDepth 100000
def qqg (a:Nat->SV):Nat->List Nat->List (List SV)
 | _,[]=>[]
 | j,t::es=>[si t,a j]::qqg a (j+1) es
def qqh (a:Nat->SV):List Nat->SV
 | []=>.nilSlice
 | t::es=>.lst (qqg a 0 (t::es))
def j8p (ps is:Nat->SV) (ags:Nat->Nat->SV):Nat->List (List Nat)->List (List SV)
 | _,[]=>[]
 | k,es::g=>[ps k,is k,qqh (ags k) es]::j8p ps is ags (k+1) g
def qqi (g:List (List Nat)) (v:SV) (ps is:Nat->SV) (ags:Nat->Nat->SV):List SV:=[v,.lst (j8p ps is ags 0 g)]
def jeo (n:Int):List SV:=[si n]
def jut (o:List Nat) (i:List Int) (d:List Nat):List SV:=[jah jas o,jah jeo i,jah jas d]
def juu (l:List Nat):List SV:=[jah jas l]
noncomputable def qn5 (fn:FuncId) (extra:List AV) (g:List (List Nat)) (v:SV) (ps is:Nat->SV) (ags:Nat->Nat->SV):Option AV :=
 ob (jnl F7 3000 fn (.agg (qqi g v ps is ags)::extra) h0) (fun p=>jgu true p.2 9 p.1)
theorem jkq {fn:FuncId} {extra:List AV} {g:List (List Nat)} {v:SV} {ps is:Nat->SV} {ags:Nat->Nat->SV} {u:AV} (h:qn5 fn extra g v ps is ags=some u):joq true F7 fn (.agg (qqi g v ps is ags)::extra) u:=by
 obtain ⟨p,h1,h2⟩:=jab.1 h
 exact ⟨3000,p.1,p.2,h1,9,h2⟩
def oG (s:List Bool):Prop:=∀ (v:SV) (ps is:Nat->SV) (ags:Nat->Nat->SV),qn5 38 [] (gS s) v ps is ags=some (.s (jah jas (jen s 0)))
def nG (s:List Bool):Prop:=∀ (v:SV) (ps is:Nat->SV) (ags:Nat->Nat->SV),qn5 39 [] (gS s) v ps is ags=some (.s (jah juu (jqt (gS s))))
def iG (s:List Bool):Prop:=∀ (v:SV) (ps is:Nat->SV) (ags:Nat->Nat->SV),qn5 41 [.s (jah jas (jen s 0))] (gS s) v ps is ags=some (.s (jah jeo (jbf s)))
def tG (s:List Bool):Prop:=∀ (v:SV) (ps is:Nat->SV) (ags:Nat->Nat->SV),qn5 42 [] (gS s) v ps is ags=some (.agg (jut (jen s 0) (jbf s) (ji5 s)))
end Go.Proofs.Ytaljcpoopmedmaa.Ev

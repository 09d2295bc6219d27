/- Graphs of functions built of pieces: shapes, and what is told of them. No program in sight. -/
import Derived.Test.YtkeenpohacdanaaVd
import Derived.Test.YtkeenpohacdanaaOr
namespace Go.Proofs.Ytkeenpohacdanaa.Ms
set_option linter.all false
def j16 (g:List (List Nat)) (b:Bool):List (List Nat) :=
 let a:=g.length
 match b with
 | false=>g.modify (a - 1) (·++[a,a+1])++[[a+2],[a+2],[]]
 | true=>g.modify (a - 1) (·++[a])++[[a+1,a+2],[a],[]]
def gS (s:List Bool):List (List Nat):=s.foldl j16 [[]]
def j6s:List Bool->Nat->List Nat
 | [],c=>[c]
 | false::s,c=>c::(c+2)::(c+1)::j6s s (c+3)
 | true::s,c=>c::(c+1)::(j6s s (c+3)++[c+2])
def jjw:List Bool->Nat->List Int
 | [],_=>[]
 | false::s,c=>(c:Int)::c::c::jjw s (c+3)
 | true::s,c=>(c:Int)::(c+1:Nat)::(c+1:Nat)::jjw s (c+3)
def jd5 (s:List Bool):List Int:=-1::jjw s 0
def qkr (g:List (List Nat)) (b:Nat):Nat->List Nat
 | 0=>[]
 | k+1=>qkr g b k++((g.getD k []).filter (fun x=>x == b)).map (fun _=>k)
def j17 (g:List (List Nat)):List (List Nat):=(List.range g.length).map (fun b=>qkr g b g.length)
end Go.Proofs.Ytkeenpohacdanaa.Ms
namespace Go.Proofs.Ytkeenpohacdanaa.Ev
open Go Go.RowKit Go.Proofs.Ytkeenpohacdanaa.Ms
set_option linter.all false
set_option maxRecDepth 100000
def qmo (a:Nat->SV):Nat->List Nat->List (List SV)
 | _,[]=>[]
 | j,t::es=>[si t,a j]::qmo a (j+1) es
def qmp (a:Nat->SV):List Nat->SV
 | []=>.nilSlice
 | t::es=>.lst (qmo a 0 (t::es))
def j6t (ps is:Nat->SV) (ags:Nat->Nat->SV):Nat->List (List Nat)->List (List SV)
 | _,[]=>[]
 | k,es::g=>[ps k,is k,qmp (ags k) es]::j6t ps is ags (k+1) g
def qmq (g:List (List Nat)) (v:SV) (ps is:Nat->SV) (ags:Nat->Nat->SV):List SV:=[v,.lst (j6t ps is ags 0 g)]
def jhv (n:Int):List SV:=[si n]
def jpt (l:List Nat):List SV:=[jaf jay l]
noncomputable def qmr (fn:FuncId) (extra:List AV) (g:List (List Nat)) (v:SV) (ps is:Nat->SV) (ags:Nat->Nat->SV):Option AV :=
 ob (jmw F7 3000 fn (.agg (qmq g v ps is ags)::extra) h0) (fun p=>jfq true p.2 9 p.1)
theorem jpd {fn:FuncId} {extra:List AV} {g:List (List Nat)} {v:SV} {ps is:Nat->SV} {ags:Nat->Nat->SV} {u:AV} (h:qmr fn extra g v ps is ags=some u):jh9 true F7 fn (.agg (qmq g v ps is ags)::extra) u:=by
 obtain⟨p,h1,h2⟩:=jaa.1 h
 exact⟨3000,p.1,p.2,h1,9,h2⟩
def oG (s:List Bool):Prop:=∀ (v:SV) (ps is:Nat->SV) (ags:Nat->Nat->SV),qmr 25 [] (gS s) v ps is ags=some (.s (jaf jay (j6s s 0)))
def nG (s:List Bool):Prop:=∀ (v:SV) (ps is:Nat->SV) (ags:Nat->Nat->SV),qmr 26 [] (gS s) v ps is ags=some (.s (jaf jpt (j17 (gS s))))
def iG (s:List Bool):Prop:=∀ (v:SV) (ps is:Nat->SV) (ags:Nat->Nat->SV),qmr 28 [.s (jaf jay (j6s s 0))] (gS s) v ps is ags=some (.s (jaf jhv (jd5 s)))
end Go.Proofs.Ytkeenpohacdanaa.Ev

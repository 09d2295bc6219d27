/- Graphs of functions built of pieces: shapes, and what is told of them. No program in sight. -/
import Derived.Test.YthbghmhjgdonmaaVd
import Derived.Test.YthbghmhjgdonmaaOr
namespace Go.Proofs.Ythbghmhjgdonmaa.Ms
set_option linter.all false
def j3o (g:List (List Nat)) (b:Bool):List (List Nat) :=
 let a:=g.length
 match b with
 | false=>g.modify (a - 1) (·++[a,a+1])++[[a+2],[a+2],[]]
 | true=>g.modify (a - 1) (·++[a])++[[a+1,a+2],[a],[]]
def gS (s:List Bool):List (List Nat):=s.foldl j3o [[]]
def j8g:List Bool->Nat->List Nat
 | [],c=>[c]
 | false::s,c=>c::(c+2)::(c+1)::j8g s (c+3)
 | true::s,c=>c::(c+1)::(j8g s (c+3)++[c+2])
def jki:List Bool->Nat->List Int
 | [],_=>[]
 | false::s,c=>(c:Int)::c::c::jki s (c+3)
 | true::s,c=>(c:Int)::(c+1:Nat)::(c+1:Nat)::jki s (c+3)
def jgu (s:List Bool):List Int:=-1::jki s 0
def qos (g:List (List Nat)) (b:Nat):Nat->List Nat
 | 0=>[]
 | k+1=>qos g b k++((g.getD k []).filter (fun x=>x == b)).map (fun _=>k)
def j3p (g:List (List Nat)):List (List Nat):=(List.range g.length).map (fun b=>qos g b g.length)
end Go.Proofs.Ythbghmhjgdonmaa.Ms
namespace Go.Proofs.Ythbghmhjgdonmaa.Ev
open Go Go.RowKit Go.Proofs.Ythbghmhjgdonmaa.Ms
set_option linter.all false
set_option maxRecDepth 100000
def qqx (a:Nat->SV):Nat->List Nat->List (List SV)
 | _,[]=>[]
 | j,t::es=>[si t,a j]::qqx a (j+1) es
def qqy (a:Nat->SV):List Nat->SV
 | []=>.nilSlice
 | t::es=>.lst (qqx a 0 (t::es))
def j8h (ps is:Nat->SV) (ags:Nat->Nat->SV):Nat->List (List Nat)->List (List SV)
 | _,[]=>[]
 | k,es::g=>[ps k,is k,qqy (ags k) es]::j8h ps is ags (k+1) g
def qqz (g:List (List Nat)) (v:SV) (ps is:Nat->SV) (ags:Nat->Nat->SV):List SV:=[v,.lst (j8h ps is ags 0 g)]
def jgv (n:Int):List SV:=[si n]
def jqt (l:List Nat):List SV:=[jae jas l]
noncomputable def qq0 (fn:FuncId) (extra:List AV) (g:List (List Nat)) (v:SV) (ps is:Nat->SV) (ags:Nat->Nat->SV):Option AV :=
 ob (jnp F7 3000 fn (.agg (qqz g v ps is ags)::extra) h0) (fun p=>jfr true p.2 9 p.1)
theorem jp6 {fn:FuncId} {extra:List AV} {g:List (List Nat)} {v:SV} {ps is:Nat->SV} {ags:Nat->Nat->SV} {u:AV} (h:qq0 fn extra g v ps is ags=some u):jhd true F7 fn (.agg (qqz g v ps is ags)::extra) u:=by
 obtain⟨p,h1,h2⟩:=jaa.1 h
 exact⟨3000,p.1,p.2,h1,9,h2⟩
def oG (s:List Bool):Prop:=∀ (v:SV) (ps is:Nat->SV) (ags:Nat->Nat->SV),qq0 24 [] (gS s) v ps is ags=some (.s (jae jas (j8g s 0)))
def nG (s:List Bool):Prop:=∀ (v:SV) (ps is:Nat->SV) (ags:Nat->Nat->SV),qq0 25 [] (gS s) v ps is ags=some (.s (jae jqt (j3p (gS s))))
def iG (s:List Bool):Prop:=∀ (v:SV) (ps is:Nat->SV) (ags:Nat->Nat->SV),qq0 27 [.s (jae jas (j8g s 0))] (gS s) v ps is ags=some (.s (jae jgv (jgu s)))
end Go.Proofs.Ythbghmhjgdonmaa.Ev

/- Plain laws of numbers, no program in sight: 'pick' is a number below a bound, 'mix' folds numbers modulo 1000003. Conditions: none but those that each lemma names. -/
import Derived.Test.YtalbjjoppndjjaaKit
namespace Go.Proofs.Ytalbjjoppndjjaa
def pick (n many:Int):Int:=if n<0 then (-(n+1)) % many else n % many
theorem jyg (n m:Int) (h:0<m):0<=pick n m:=by
 unfold pick;split<;>exact f3s _ (by omega)
theorem jyh (n m:Int) (h:0<m):pick n m<m:=by
 unfold pick;split<;>exact f3o _ h
def qfx (x n:Int):Int:=(x*31+n.tmod 1000003+1000003) % 1000003
def j5w:Int->List Int->Int
 | x,[]=>x
 | x,n::l=>j5w (qfx x n) l
def mix (l:List Int):Int:=j5w 7 l
end Go.Proofs.Ytalbjjoppndjjaa

/- Plain laws of numbers, no program in sight: 'pick' is a number below a bound, 'mix' folds numbers modulo 1000003. Conditions: none but those that each lemma names. -/
import Derived.Test.YtokcdoklcbgigaaKit
namespace Go.Proofs.Ytokcdoklcbgigaa
def pick (n many:Int):Int:=if n<0 then (-(n+1)) % many else n % many
theorem jyv (n m:Int) (h:0<m):0<=pick n m:=by
 unfold pick;split<;>exact f3d _ (by omega)
theorem jyw (n m:Int) (h:0<m):pick n m<m:=by
 unfold pick;split<;>exact f29 _ h
def qg6 (x n:Int):Int:=(x*31+n.tmod 1000003+1000003) % 1000003
def j6j:Int->List Int->Int
 | x,[]=>x
 | x,n::l=>j6j (qg6 x n) l
def mix (l:List Int):Int:=j6j 7 l
end Go.Proofs.Ytokcdoklcbgigaa

/- Plain laws of numbers, no program in sight: 'pick' is a number below a bound, 'mix' folds numbers modulo 1000003. Conditions: none but those that each lemma names. -/
import Derived.Test.YthbghmhjgdonmaaComp
namespace Go.Proofs.Ythbghmhjgdonmaa
def pick (n many:Int):Int:=if n<0 then (-(n+1)) % many else n % many
theorem jrb (n m:Int) (h:0<m):0<=pick n m:=by
 unfold pick;split<;>exact Int.emod_nonneg _ (by omega)
theorem jrc (n m:Int) (h:0<m):pick n m<m:=by
 unfold pick;split<;>exact Int.emod_lt_of_pos _ h
def j2x (x n:Int):Int:=(x*31+n.tmod 1000003+1000003) % 1000003
def jwn:Int->List Int->Int
 | x,[]=>x
 | x,n::l=>jwn (j2x x n) l
def mix (l:List Int):Int:=jwn 7 l
end Go.Proofs.Ythbghmhjgdonmaa

/- Plain laws of numbers, no program in sight: 'pick' is a number below a bound, 'mix' folds numbers modulo 1000003. Conditions: none but those that each lemma names. -/
import Derived.Test.YtkplfnkgodnmaaaComp
namespace Go.Proofs.Ytkplfnkgodnmaaa
def pick (n many:Int):Int:=if n<0 then (-(n+1)) % many else n % many
theorem jzn (n m:Int) (h:0<m):0<=pick n m:=by
 unfold pick;split<;>exact Int.emod_nonneg _ (by omega)
theorem jzo (n m:Int) (h:0<m):pick n m<m:=by
 unfold pick;split<;>exact Int.emod_lt_of_pos _ h
def qb4 (x n:Int):Int:=(x*31+n.tmod 1000003+1000003) % 1000003
def jzp:Int->List Int->Int
 | x,[]=>x
 | x,n::l=>jzp (qb4 x n) l
def mix (l:List Int):Int:=jzp 7 l
end Go.Proofs.Ytkplfnkgodnmaaa

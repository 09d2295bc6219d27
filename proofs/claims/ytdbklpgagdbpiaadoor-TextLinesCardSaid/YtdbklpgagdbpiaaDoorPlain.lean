/- Plain laws of numbers, no program in sight: 'pick' is a number below a bound, 'mix' folds numbers modulo 1000003. Conditions: none but those that each lemma names. -/
import Derived.Test.YtdbklpgagdbpiaaDoorComp
namespace Go.Proofs.YtdbklpgagdbpiaaDoor
def pick (n many:Int):Int:=if n<0 then (-(n+1)) % many else n % many
theorem jz1 (n m:Int) (h:0<m):0<=pick n m:=by
 unfold pick;split<;>exact Int.emod_nonneg _ (by omega)
theorem jz2 (n m:Int) (h:0<m):pick n m<m:=by
 unfold pick;split<;>exact Int.emod_lt_of_pos _ h
def qid (x n:Int):Int:=(x*31+n.tmod 1000003+1000003) % 1000003
def j7u:Int->List Int->Int
 | x,[]=>x
 | x,n::l=>j7u (qid x n) l
def mix (l:List Int):Int:=j7u 7 l
end Go.Proofs.YtdbklpgagdbpiaaDoor

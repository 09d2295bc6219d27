/- Plain laws of numbers. -/
import Derived.Test.YtkpadfebkaangaaGreatDoorComp
namespace Go.Proofs.YtkpadfebkaangaaGreatDoor
def pick (n many:Int):Int:=if n<0 then (-(n+1)) % many else n % many
theorem j8s (n m:Int) (h:0<m):0<=pick n m:=by
 unfold pick;split<;>exact Int.emod_nonneg _ oa
theorem jy4 (n m:Int) (h:0<m):pick n m<m:=by
 unfold pick;split<;>exact Int.emod_lt_of_pos _ h
def qmg (x n:Int):Int:=(x*31+n.tmod 1000003+1000003) % 1000003
def j8t:Int->List Int->Int
 | x,[]=>x
 | x,n::l=>j8t (qmg x n) l
def mix (l:List Int):Int:=j8t 7 l
end Go.Proofs.YtkpadfebkaangaaGreatDoor

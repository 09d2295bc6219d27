/- Plain laws of numbers, no program in sight: 'pick' is a number below a bound, 'mix' folds numbers modulo 1000003. Conditions: none but those that each lemma names. -/
import Derived.Test.YtkpadfebkaangaaGreatDoorComp
namespace Go.Proofs.YtkpadfebkaangaaGreatDoor
def pick (n many:Int):Int:=if n<0 then (-(n+1)) % many else n % many
theorem qa5 (n m:Int) (h:0<m):0<=pick n m:=by
 unfold pick;split<;>exact Int.emod_nonneg _ oa
theorem j2k (n m:Int) (h:0<m):pick n m<m:=by
 unfold pick;split<;>exact Int.emod_lt_of_pos _ h
def qmb (x n:Int):Int:=(x*31+n.tmod 1000003+1000003) % 1000003
def qa6:Int->List Int->Int
 | x,[]=>x
 | x,n::l=>qa6 (qmb x n) l
def mix (l:List Int):Int:=qa6 7 l
end Go.Proofs.YtkpadfebkaangaaGreatDoor

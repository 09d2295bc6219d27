/- Plain laws of numbers, no program in sight: 'pick' is a number below a bound, 'mix' folds numbers modulo 1000003. Conditions: none but those that each lemma names. -/
import Derived.Test.YtbogkjjoigfbjaaComp
namespace Go.Proofs.Ytbogkjjoigfbjaa
def pick (n many:Int):Int:=if n<0 then (-(n+1)) % many else n % many
theorem jsp (n m:Int) (h:0<m):0<=pick n m:=by
 unfold pick;split<;>exact f2t _ (by omega)
theorem jsq (n m:Int) (h:0<m):pick n m<m:=by
 unfold pick;split<;>exact f2k _ h
def j4x (x n:Int):Int:=(x*31+n.tmod 1000003+1000003) % 1000003
def jye:Int->List Int->Int
 | x,[]=>x
 | x,n::l=>jye (j4x x n) l
def mix (l:List Int):Int:=jye 7 l
end Go.Proofs.Ytbogkjjoigfbjaa

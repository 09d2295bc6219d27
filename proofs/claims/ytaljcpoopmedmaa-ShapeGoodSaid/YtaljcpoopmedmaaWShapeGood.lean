/- The statement 'ShapeGood': its walk. Conditions: ints of 64 bits. -/
import Derived.Test.YtaljcpoopmedmaaWPc
import Derived.Test.YtaljcpoopmedmaaSl
namespace Go.Proofs.Ytaljcpoopmedmaa.shapeGood
open Go Go.RowKit Go.Proofs.Ytaljcpoopmedmaa.Ev Go.Proofs.Ytaljcpoopmedmaa.Ms
set_option linter.all false
theorem shapeGood_walk (W:World) (a0:Int) (i0:j2s a0) (a1:Int) (i1:j2s a1) (A2:Option Addr) (len2 cap2:Nat) (xs2:List (List Int)) (hl2:xs2.length=len2) (hc2:len2<=cap2) (hA2:A2=none->cap2=0) (hr2:Recs 7 W A2 xs2) :
 Calls Try.prog 4 #[.int .i64 a0,.int .i64 a1,.slice A2 len2 cap2] W fun e w'=>e=.returned (.bool true)/\Below W.heap.size W w':=by
 obtain ⟨k,xl,hk,lx,pin,hcs⟩:=jg4 hl2 hc2 hA2 hr2
 exact jh5 (qto (A:=fun _=>0)) (d:=()) (qbx jcz i0 i1 pin lx) hk _ (.cons rfl (.cons rfl (.cons (hcs _) .nil)))
end Go.Proofs.Ytaljcpoopmedmaa.shapeGood

/- What picked computes. Conditions: numbers of 64 bits; lists that lie in memory. -/
import Derived.Test.YtehhjbfmjdlcjaaProg
import Derived.Test.YtehhjbfmjdlcjaaPlain
import Derived.Test.YtehhjbfmjdlcjaaData
namespace Go.Proofs.Ytehhjbfmjdlcjaa
open Go.RowKit
set_option linter.all false
set_option maxHeartbeats 400000 in
theorem j21 (n m:Int) (w:World) (h1:-9223372036854775808<=n) (h2:n<=9223372036854775807) (hm:0<m) (hm2:m<=9223372036854775807) :
 Calls Try.prog 18 #[.int .i64 n,.int .i64 m] w fun e w'=>e=.returned (.int .i64 (pick n m))/\w=w':=by
 by_cases hn:n<0
 ·have H:Hid (-(n+1).tmod m=pick n m):=by
   show -(n+1).tmod m=pick n m
   unfold pick;rw [if_pos hn,←Int.neg_tmod,f2t (by omega)]
  go_enter Try.func18,Try.ntmps18
  go_wp2
  go_ret
  exact ⟨j3z H.out,rfl⟩
 ·have H:Hid (n % m=pick n m):=by
   show n % m=pick n m
   unfold pick;rw [if_neg hn]
  go_enter Try.func18,Try.ntmps18
  go_wp2
  go_ret
  exact ⟨j3z H.out,rfl⟩
end Go.Proofs.Ytehhjbfmjdlcjaa

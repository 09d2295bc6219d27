/- Graphs of functions built of pieces: what the code tells of some of them, by runs. -/
import Derived.Test.YtkeenpohacdanaaGb
namespace Go.Proofs.Ytkeenpohacdanaa.Ev
open Go Go.RowKit Go.Proofs.Ytkeenpohacdanaa.Ms
set_option maxRecDepth 100000
theorem qhd:oG [false,false,true,true,true]:=fun _ _ _ _=>by kernel_rfl
theorem qhe:nG [false,false,true,true,true]:=fun _ _ _ _=>by kernel_rfl
theorem qhf:iG [false,false,true,true,true]:=fun _ _ _ _=>by kernel_rfl
theorem qhg:oG [false,true,true,false,true]:=fun _ _ _ _=>by kernel_rfl
theorem qhh:nG [false,true,true,false,true]:=fun _ _ _ _=>by kernel_rfl
theorem qhi:iG [false,true,true,false,true]:=fun _ _ _ _=>by kernel_rfl
theorem qlt:oG [true,true,true,true]:=fun _ _ _ _=>by kernel_rfl
theorem qlu:nG [true,true,true,true]:=fun _ _ _ _=>by kernel_rfl
theorem qlv:iG [true,true,true,true]:=fun _ _ _ _=>by kernel_rfl
theorem qhj:oG [true,false,true,false,false]:=fun _ _ _ _=>by kernel_rfl
theorem qhk:nG [true,false,true,false,false]:=fun _ _ _ _=>by kernel_rfl
theorem qhl:iG [true,false,true,false,false]:=fun _ _ _ _=>by kernel_rfl
theorem qhm:oG [false,false,true,false,false]:=fun _ _ _ _=>by kernel_rfl
theorem qhn:nG [false,false,true,false,false]:=fun _ _ _ _=>by kernel_rfl
theorem qho:iG [false,false,true,false,false]:=fun _ _ _ _=>by kernel_rfl
theorem qlw:oG [true,true,false,false]:=fun _ _ _ _=>by kernel_rfl
theorem qlx:nG [true,true,false,false]:=fun _ _ _ _=>by kernel_rfl
theorem qly:iG [true,true,false,false]:=fun _ _ _ _=>by kernel_rfl
theorem qlz:oG [false,false,false,false]:=fun _ _ _ _=>by kernel_rfl
theorem ql0:nG [false,false,false,false]:=fun _ _ _ _=>by kernel_rfl
theorem ql1:iG [false,false,false,false]:=fun _ _ _ _=>by kernel_rfl
theorem qq2:oG [false,false]:=fun _ _ _ _=>by kernel_rfl
theorem qq3:nG [false,false]:=fun _ _ _ _=>by kernel_rfl
theorem qq4:iG [false,false]:=fun _ _ _ _=>by kernel_rfl
theorem qhp:oG [false,true,false,true,true]:=fun _ _ _ _=>by kernel_rfl
theorem qhq:nG [false,true,false,true,true]:=fun _ _ _ _=>by kernel_rfl
theorem qhr:iG [false,true,false,true,true]:=fun _ _ _ _=>by kernel_rfl
theorem qhs:oG [false,true,true,true,false]:=fun _ _ _ _=>by kernel_rfl
theorem qht:nG [false,true,true,true,false]:=fun _ _ _ _=>by kernel_rfl
theorem qhu:iG [false,true,true,true,false]:=fun _ _ _ _=>by kernel_rfl
theorem qhv:oG [false,false,false,true,true]:=fun _ _ _ _=>by kernel_rfl
theorem qhw:nG [false,false,false,true,true]:=fun _ _ _ _=>by kernel_rfl
theorem qhx:iG [false,false,false,true,true]:=fun _ _ _ _=>by kernel_rfl
theorem qhy:oG [true,false,false,true,false]:=fun _ _ _ _=>by kernel_rfl
theorem qhz:nG [true,false,false,true,false]:=fun _ _ _ _=>by kernel_rfl
theorem qh0:iG [true,false,false,true,false]:=fun _ _ _ _=>by kernel_rfl
theorem qh1:oG [false,false,false,true,false]:=fun _ _ _ _=>by kernel_rfl
theorem qh2:nG [false,false,false,true,false]:=fun _ _ _ _=>by kernel_rfl
theorem qh3:iG [false,false,false,true,false]:=fun _ _ _ _=>by kernel_rfl
theorem ql2:oG [true,false,true,false]:=fun _ _ _ _=>by kernel_rfl
theorem ql3:nG [true,false,true,false]:=fun _ _ _ _=>by kernel_rfl
theorem ql4:iG [true,false,true,false]:=fun _ _ _ _=>by kernel_rfl
theorem qox:oG [false,false,true]:=fun _ _ _ _=>by kernel_rfl
theorem qoy:nG [false,false,true]:=fun _ _ _ _=>by kernel_rfl
theorem qoz:iG [false,false,true]:=fun _ _ _ _=>by kernel_rfl
theorem qo0:oG [false,false,false]:=fun _ _ _ _=>by kernel_rfl
theorem qo1:nG [false,false,false]:=fun _ _ _ _=>by kernel_rfl
theorem qo2:iG [false,false,false]:=fun _ _ _ _=>by kernel_rfl
end Go.Proofs.Ytkeenpohacdanaa.Ev

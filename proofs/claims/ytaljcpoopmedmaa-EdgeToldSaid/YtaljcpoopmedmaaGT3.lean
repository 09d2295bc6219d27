/- Graphs of functions built of pieces: what the code tells of some of them, by runs. -/
import Derived.Test.YtaljcpoopmedmaaGb
namespace Go.Proofs.Ytaljcpoopmedmaa.Ev
open Go Go.RowKit Go.Proofs.Ytaljcpoopmedmaa.Ms
set_option maxRecDepth 100000
theorem qhn:oG [true,false,true,true,true]:=fun _ _ _ _=>by kernel_rfl
theorem qho:nG [true,false,true,true,true]:=fun _ _ _ _=>by kernel_rfl
theorem qhp:iG [true,false,true,true,true]:=fun _ _ _ _=>by kernel_rfl
theorem qhq:oG [true,false,true,false,true]:=fun _ _ _ _=>by kernel_rfl
theorem qhr:nG [true,false,true,false,true]:=fun _ _ _ _=>by kernel_rfl
theorem qhs:iG [true,false,true,false,true]:=fun _ _ _ _=>by kernel_rfl
theorem qht:oG [false,false,true,true,false]:=fun _ _ _ _=>by kernel_rfl
theorem qhu:nG [false,false,true,true,false]:=fun _ _ _ _=>by kernel_rfl
theorem qhv:iG [false,false,true,true,false]:=fun _ _ _ _=>by kernel_rfl
theorem qmc:oG [false,true,true,true]:=fun _ _ _ _=>by kernel_rfl
theorem qmd:nG [false,true,true,true]:=fun _ _ _ _=>by kernel_rfl
theorem qme:iG [false,true,true,true]:=fun _ _ _ _=>by kernel_rfl
theorem qhw:oG [false,true,false,false,false]:=fun _ _ _ _=>by kernel_rfl
theorem qhx:nG [false,true,false,false,false]:=fun _ _ _ _=>by kernel_rfl
theorem qhy:iG [false,true,false,false,false]:=fun _ _ _ _=>by kernel_rfl
theorem qmf:oG [false,false,true,false]:=fun _ _ _ _=>by kernel_rfl
theorem qmg:nG [false,false,true,false]:=fun _ _ _ _=>by kernel_rfl
theorem qmh:iG [false,false,true,false]:=fun _ _ _ _=>by kernel_rfl
theorem qpv:oG [true,true,false]:=fun _ _ _ _=>by kernel_rfl
theorem qpw:nG [true,true,false]:=fun _ _ _ _=>by kernel_rfl
theorem qpx:iG [true,true,false]:=fun _ _ _ _=>by kernel_rfl
theorem qhz:oG [true,true,false,true,true]:=fun _ _ _ _=>by kernel_rfl
theorem qh0:nG [true,true,false,true,true]:=fun _ _ _ _=>by kernel_rfl
theorem qh1:iG [true,true,false,true,true]:=fun _ _ _ _=>by kernel_rfl
theorem qh2:oG [true,false,true,true,false]:=fun _ _ _ _=>by kernel_rfl
theorem qh3:nG [true,false,true,true,false]:=fun _ _ _ _=>by kernel_rfl
theorem qh4:iG [true,false,true,true,false]:=fun _ _ _ _=>by kernel_rfl
theorem qh5:oG [false,true,false,false,true]:=fun _ _ _ _=>by kernel_rfl
theorem qh6:nG [false,true,false,false,true]:=fun _ _ _ _=>by kernel_rfl
theorem qh7:iG [false,true,false,false,true]:=fun _ _ _ _=>by kernel_rfl
theorem qmi:oG [true,false,true,true]:=fun _ _ _ _=>by kernel_rfl
theorem qmj:nG [true,false,true,true]:=fun _ _ _ _=>by kernel_rfl
theorem qmk:iG [true,false,true,true]:=fun _ _ _ _=>by kernel_rfl
theorem qh8:oG [true,false,false,false,false]:=fun _ _ _ _=>by kernel_rfl
theorem qh9:nG [true,false,false,false,false]:=fun _ _ _ _=>by kernel_rfl
theorem qia:iG [true,false,false,false,false]:=fun _ _ _ _=>by kernel_rfl
theorem qml:oG [false,true,false,false]:=fun _ _ _ _=>by kernel_rfl
theorem qmm:nG [false,true,false,false]:=fun _ _ _ _=>by kernel_rfl
theorem qmn:iG [false,true,false,false]:=fun _ _ _ _=>by kernel_rfl
theorem qib:oG [false,false,false,false,false]:=fun _ _ _ _=>by kernel_rfl
theorem qic:nG [false,false,false,false,false]:=fun _ _ _ _=>by kernel_rfl
theorem qid:iG [false,false,false,false,false]:=fun _ _ _ _=>by kernel_rfl
theorem o_t:oG [true]:=fun _ _ _ _=>by kernel_rfl
theorem n_t:nG [true]:=fun _ _ _ _=>by kernel_rfl
theorem i_t:iG [true]:=fun _ _ _ _=>by kernel_rfl
end Go.Proofs.Ytaljcpoopmedmaa.Ev

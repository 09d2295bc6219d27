/- Graphs of functions built of pieces: what the code tells of some of them, by runs. -/
import Derived.Test.YtaljcpoopmedmaaGb
namespace Go.Proofs.Ytaljcpoopmedmaa.Ev
open Go Go.RowKit Go.Proofs.Ytaljcpoopmedmaa.Ms
set_option maxRecDepth 100000
theorem qie:oG [true,true,true,false,true]:=fun _ _ _ _=>by kernel_rfl
theorem qif:nG [true,true,true,false,true]:=fun _ _ _ _=>by kernel_rfl
theorem qig:iG [true,true,true,false,true]:=fun _ _ _ _=>by kernel_rfl
theorem qih:oG [true,true,false,false,true]:=fun _ _ _ _=>by kernel_rfl
theorem qii:nG [true,true,false,false,true]:=fun _ _ _ _=>by kernel_rfl
theorem qij:iG [true,true,false,false,true]:=fun _ _ _ _=>by kernel_rfl
theorem qik:oG [false,true,false,true,false]:=fun _ _ _ _=>by kernel_rfl
theorem qil:nG [false,true,false,true,false]:=fun _ _ _ _=>by kernel_rfl
theorem qim:iG [false,true,false,true,false]:=fun _ _ _ _=>by kernel_rfl
theorem qmo:oG [true,true,false,true]:=fun _ _ _ _=>by kernel_rfl
theorem qmp:nG [true,true,false,true]:=fun _ _ _ _=>by kernel_rfl
theorem qmq:iG [true,true,false,true]:=fun _ _ _ _=>by kernel_rfl
theorem qmr:oG [false,false,true,true]:=fun _ _ _ _=>by kernel_rfl
theorem qms:nG [false,false,true,true]:=fun _ _ _ _=>by kernel_rfl
theorem qmt:iG [false,false,true,true]:=fun _ _ _ _=>by kernel_rfl
theorem qpy:oG [true,true,true]:=fun _ _ _ _=>by kernel_rfl
theorem qpz:nG [true,true,true]:=fun _ _ _ _=>by kernel_rfl
theorem qp0:iG [true,true,true]:=fun _ _ _ _=>by kernel_rfl
theorem qp1:oG [true,false,false]:=fun _ _ _ _=>by kernel_rfl
theorem qp2:nG [true,false,false]:=fun _ _ _ _=>by kernel_rfl
theorem qp3:iG [true,false,false]:=fun _ _ _ _=>by kernel_rfl
theorem o_f:oG [false]:=fun _ _ _ _=>by kernel_rfl
theorem n_f:nG [false]:=fun _ _ _ _=>by kernel_rfl
theorem i_f:iG [false]:=fun _ _ _ _=>by kernel_rfl
theorem o_:oG []:=fun _ _ _ _=>by kernel_rfl
theorem n_:nG []:=fun _ _ _ _=>by kernel_rfl
theorem i_:iG []:=fun _ _ _ _=>by kernel_rfl
theorem qin:oG [true,true,true,true,false]:=fun _ _ _ _=>by kernel_rfl
theorem qio:nG [true,true,true,true,false]:=fun _ _ _ _=>by kernel_rfl
theorem qip:iG [true,true,true,true,false]:=fun _ _ _ _=>by kernel_rfl
theorem qiq:oG [true,true,false,true,false]:=fun _ _ _ _=>by kernel_rfl
theorem qir:nG [true,true,false,true,false]:=fun _ _ _ _=>by kernel_rfl
theorem qis:iG [true,true,false,true,false]:=fun _ _ _ _=>by kernel_rfl
theorem qit:oG [false,true,true,false,false]:=fun _ _ _ _=>by kernel_rfl
theorem qiu:nG [false,true,true,false,false]:=fun _ _ _ _=>by kernel_rfl
theorem qiv:iG [false,true,true,false,false]:=fun _ _ _ _=>by kernel_rfl
theorem qmu:oG [true,true,true,false]:=fun _ _ _ _=>by kernel_rfl
theorem qmv:nG [true,true,true,false]:=fun _ _ _ _=>by kernel_rfl
theorem qmw:iG [true,true,true,false]:=fun _ _ _ _=>by kernel_rfl
theorem qmx:oG [false,true,false,true]:=fun _ _ _ _=>by kernel_rfl
theorem qmy:nG [false,true,false,true]:=fun _ _ _ _=>by kernel_rfl
theorem qmz:iG [false,true,false,true]:=fun _ _ _ _=>by kernel_rfl
theorem qm0:oG [false,false,false,true]:=fun _ _ _ _=>by kernel_rfl
theorem qm1:nG [false,false,false,true]:=fun _ _ _ _=>by kernel_rfl
theorem qm2:iG [false,false,false,true]:=fun _ _ _ _=>by kernel_rfl
theorem qp4:oG [true,false,true]:=fun _ _ _ _=>by kernel_rfl
theorem qp5:nG [true,false,true]:=fun _ _ _ _=>by kernel_rfl
theorem qp6:iG [true,false,true]:=fun _ _ _ _=>by kernel_rfl
end Go.Proofs.Ytaljcpoopmedmaa.Ev

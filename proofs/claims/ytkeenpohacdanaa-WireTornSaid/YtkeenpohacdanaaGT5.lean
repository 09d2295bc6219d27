/- Graphs of functions built of pieces: what the code tells of some of them, by runs. -/
import Derived.Test.YtkeenpohacdanaaGb
namespace Go.Proofs.Ytkeenpohacdanaa.Ev
open Go Go.RowKit Go.Proofs.Ytkeenpohacdanaa.Ms
set_option maxRecDepth 100000
theorem qmj:oG [true,true,true,false,true]:=fun _ _ _ _=>by kernel_rfl
theorem qmk:nG [true,true,true,false,true]:=fun _ _ _ _=>by kernel_rfl
theorem qml:iG [true,true,true,false,true]:=fun _ _ _ _=>by kernel_rfl
theorem qmm:oG [true,true,false,false,true]:=fun _ _ _ _=>by kernel_rfl
theorem qmn:nG [true,true,false,false,true]:=fun _ _ _ _=>by kernel_rfl
theorem qmo:iG [true,true,false,false,true]:=fun _ _ _ _=>by kernel_rfl
theorem qmp:oG [false,true,false,true,false]:=fun _ _ _ _=>by kernel_rfl
theorem qmq:nG [false,true,false,true,false]:=fun _ _ _ _=>by kernel_rfl
theorem qmr:iG [false,true,false,true,false]:=fun _ _ _ _=>by kernel_rfl
theorem qrb:oG [true,true,false,true]:=fun _ _ _ _=>by kernel_rfl
theorem qrc:nG [true,true,false,true]:=fun _ _ _ _=>by kernel_rfl
theorem qrd:iG [true,true,false,true]:=fun _ _ _ _=>by kernel_rfl
theorem qre:oG [false,false,true,true]:=fun _ _ _ _=>by kernel_rfl
theorem qrf:nG [false,false,true,true]:=fun _ _ _ _=>by kernel_rfl
theorem qrg:iG [false,false,true,true]:=fun _ _ _ _=>by kernel_rfl
theorem qu3:oG [true,true,true]:=fun _ _ _ _=>by kernel_rfl
theorem qu4:nG [true,true,true]:=fun _ _ _ _=>by kernel_rfl
theorem qu5:iG [true,true,true]:=fun _ _ _ _=>by kernel_rfl
theorem qu6:oG [true,false,false]:=fun _ _ _ _=>by kernel_rfl
theorem qu7:nG [true,false,false]:=fun _ _ _ _=>by kernel_rfl
theorem qu8:iG [true,false,false]:=fun _ _ _ _=>by kernel_rfl
theorem o_f:oG [false]:=fun _ _ _ _=>by kernel_rfl
theorem n_f:nG [false]:=fun _ _ _ _=>by kernel_rfl
theorem i_f:iG [false]:=fun _ _ _ _=>by kernel_rfl
theorem o_:oG []:=fun _ _ _ _=>by kernel_rfl
theorem n_:nG []:=fun _ _ _ _=>by kernel_rfl
theorem i_:iG []:=fun _ _ _ _=>by kernel_rfl
theorem qms:oG [true,true,true,true,false]:=fun _ _ _ _=>by kernel_rfl
theorem qmt:nG [true,true,true,true,false]:=fun _ _ _ _=>by kernel_rfl
theorem qmu:iG [true,true,true,true,false]:=fun _ _ _ _=>by kernel_rfl
theorem qmv:oG [true,true,false,true,false]:=fun _ _ _ _=>by kernel_rfl
theorem qmw:nG [true,true,false,true,false]:=fun _ _ _ _=>by kernel_rfl
theorem qmx:iG [true,true,false,true,false]:=fun _ _ _ _=>by kernel_rfl
theorem qmy:oG [false,true,true,false,false]:=fun _ _ _ _=>by kernel_rfl
theorem qmz:nG [false,true,true,false,false]:=fun _ _ _ _=>by kernel_rfl
theorem qm0:iG [false,true,true,false,false]:=fun _ _ _ _=>by kernel_rfl
theorem qrh:oG [true,true,true,false]:=fun _ _ _ _=>by kernel_rfl
theorem qri:nG [true,true,true,false]:=fun _ _ _ _=>by kernel_rfl
theorem qrj:iG [true,true,true,false]:=fun _ _ _ _=>by kernel_rfl
theorem qrk:oG [false,true,false,true]:=fun _ _ _ _=>by kernel_rfl
theorem qrl:nG [false,true,false,true]:=fun _ _ _ _=>by kernel_rfl
theorem qrm:iG [false,true,false,true]:=fun _ _ _ _=>by kernel_rfl
theorem qrn:oG [false,false,false,true]:=fun _ _ _ _=>by kernel_rfl
theorem qro:nG [false,false,false,true]:=fun _ _ _ _=>by kernel_rfl
theorem qrp:iG [false,false,false,true]:=fun _ _ _ _=>by kernel_rfl
theorem qu9:oG [true,false,true]:=fun _ _ _ _=>by kernel_rfl
theorem qva:nG [true,false,true]:=fun _ _ _ _=>by kernel_rfl
theorem qvb:iG [true,false,true]:=fun _ _ _ _=>by kernel_rfl
end Go.Proofs.Ytkeenpohacdanaa.Ev

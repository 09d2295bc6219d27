/- Graphs of functions built of pieces: what the code tells of some of them, by runs. -/
import Derived.Test.YtdbklpgagdbpiaaDoorGb
namespace Go.Proofs.YtdbklpgagdbpiaaDoor.Ev
open Go Go.RowKit Go.Proofs.YtdbklpgagdbpiaaDoor.Ms
set_option maxRecDepth 100000
theorem qmh:oG [true,true,true,false,true]:=fun _ _ _ _=>by kernel_rfl
theorem qmi:nG [true,true,true,false,true]:=fun _ _ _ _=>by kernel_rfl
theorem qmj:iG [true,true,true,false,true]:=fun _ _ _ _=>by kernel_rfl
theorem qmk:oG [true,true,false,false,true]:=fun _ _ _ _=>by kernel_rfl
theorem qml:nG [true,true,false,false,true]:=fun _ _ _ _=>by kernel_rfl
theorem qmm:iG [true,true,false,false,true]:=fun _ _ _ _=>by kernel_rfl
theorem qmn:oG [false,true,false,true,false]:=fun _ _ _ _=>by kernel_rfl
theorem qmo:nG [false,true,false,true,false]:=fun _ _ _ _=>by kernel_rfl
theorem qmp:iG [false,true,false,true,false]:=fun _ _ _ _=>by kernel_rfl
theorem qrf:oG [true,true,false,true]:=fun _ _ _ _=>by kernel_rfl
theorem qrg:nG [true,true,false,true]:=fun _ _ _ _=>by kernel_rfl
theorem qrh:iG [true,true,false,true]:=fun _ _ _ _=>by kernel_rfl
theorem qri:oG [false,false,true,true]:=fun _ _ _ _=>by kernel_rfl
theorem qrj:nG [false,false,true,true]:=fun _ _ _ _=>by kernel_rfl
theorem qrk:iG [false,false,true,true]:=fun _ _ _ _=>by kernel_rfl
theorem qu0:oG [true,true,true]:=fun _ _ _ _=>by kernel_rfl
theorem qu1:nG [true,true,true]:=fun _ _ _ _=>by kernel_rfl
theorem qu2:iG [true,true,true]:=fun _ _ _ _=>by kernel_rfl
theorem qu3:oG [true,false,false]:=fun _ _ _ _=>by kernel_rfl
theorem qu4:nG [true,false,false]:=fun _ _ _ _=>by kernel_rfl
theorem qu5:iG [true,false,false]:=fun _ _ _ _=>by kernel_rfl
theorem o_f:oG [false]:=fun _ _ _ _=>by kernel_rfl
theorem n_f:nG [false]:=fun _ _ _ _=>by kernel_rfl
theorem i_f:iG [false]:=fun _ _ _ _=>by kernel_rfl
theorem o_:oG []:=fun _ _ _ _=>by kernel_rfl
theorem n_:nG []:=fun _ _ _ _=>by kernel_rfl
theorem i_:iG []:=fun _ _ _ _=>by kernel_rfl
theorem qmq:oG [true,true,true,true,false]:=fun _ _ _ _=>by kernel_rfl
theorem qmr:nG [true,true,true,true,false]:=fun _ _ _ _=>by kernel_rfl
theorem qms:iG [true,true,true,true,false]:=fun _ _ _ _=>by kernel_rfl
theorem qmt:oG [true,true,false,true,false]:=fun _ _ _ _=>by kernel_rfl
theorem qmu:nG [true,true,false,true,false]:=fun _ _ _ _=>by kernel_rfl
theorem qmv:iG [true,true,false,true,false]:=fun _ _ _ _=>by kernel_rfl
theorem qmw:oG [false,true,true,false,false]:=fun _ _ _ _=>by kernel_rfl
theorem qmx:nG [false,true,true,false,false]:=fun _ _ _ _=>by kernel_rfl
theorem qmy:iG [false,true,true,false,false]:=fun _ _ _ _=>by kernel_rfl
theorem qrl:oG [true,true,true,false]:=fun _ _ _ _=>by kernel_rfl
theorem qrm:nG [true,true,true,false]:=fun _ _ _ _=>by kernel_rfl
theorem qrn:iG [true,true,true,false]:=fun _ _ _ _=>by kernel_rfl
theorem qro:oG [false,true,false,true]:=fun _ _ _ _=>by kernel_rfl
theorem qrp:nG [false,true,false,true]:=fun _ _ _ _=>by kernel_rfl
theorem qrq:iG [false,true,false,true]:=fun _ _ _ _=>by kernel_rfl
theorem qrr:oG [false,false,false,true]:=fun _ _ _ _=>by kernel_rfl
theorem qrs:nG [false,false,false,true]:=fun _ _ _ _=>by kernel_rfl
theorem qrt:iG [false,false,false,true]:=fun _ _ _ _=>by kernel_rfl
theorem qu6:oG [true,false,true]:=fun _ _ _ _=>by kernel_rfl
theorem qu7:nG [true,false,true]:=fun _ _ _ _=>by kernel_rfl
theorem qu8:iG [true,false,true]:=fun _ _ _ _=>by kernel_rfl
end Go.Proofs.YtdbklpgagdbpiaaDoor.Ev

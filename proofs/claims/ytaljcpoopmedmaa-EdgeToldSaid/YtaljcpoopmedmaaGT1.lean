/- Graphs of functions built of pieces: what the code tells of some of them, by runs. -/
import Derived.Test.YtaljcpoopmedmaaGb
namespace Go.Proofs.Ytaljcpoopmedmaa.Ev
open Go Go.RowKit Go.Proofs.Ytaljcpoopmedmaa.Ms
set_option maxRecDepth 100000
theorem qgz:oG [true,true,true,true,true]:=fun _ _ _ _=>by kernel_rfl
theorem qg0:nG [true,true,true,true,true]:=fun _ _ _ _=>by kernel_rfl
theorem qg1:iG [true,true,true,true,true]:=fun _ _ _ _=>by kernel_rfl
theorem qg2:oG [true,true,true,false,false]:=fun _ _ _ _=>by kernel_rfl
theorem qg3:nG [true,true,true,false,false]:=fun _ _ _ _=>by kernel_rfl
theorem qg4:iG [true,true,true,false,false]:=fun _ _ _ _=>by kernel_rfl
theorem qg5:oG [true,false,false,false,true]:=fun _ _ _ _=>by kernel_rfl
theorem qg6:nG [true,false,false,false,true]:=fun _ _ _ _=>by kernel_rfl
theorem qg7:iG [true,false,false,false,true]:=fun _ _ _ _=>by kernel_rfl
theorem qg8:oG [false,false,false,false,true]:=fun _ _ _ _=>by kernel_rfl
theorem qg9:nG [false,false,false,false,true]:=fun _ _ _ _=>by kernel_rfl
theorem qha:iG [false,false,false,false,true]:=fun _ _ _ _=>by kernel_rfl
theorem ql3:oG [true,false,false,true]:=fun _ _ _ _=>by kernel_rfl
theorem ql4:nG [true,false,false,true]:=fun _ _ _ _=>by kernel_rfl
theorem ql5:iG [true,false,false,true]:=fun _ _ _ _=>by kernel_rfl
theorem qpp:oG [false,true,true]:=fun _ _ _ _=>by kernel_rfl
theorem qpq:nG [false,true,true]:=fun _ _ _ _=>by kernel_rfl
theorem qpr:iG [false,true,true]:=fun _ _ _ _=>by kernel_rfl
theorem qps:oG [false,true,false]:=fun _ _ _ _=>by kernel_rfl
theorem qpt:nG [false,true,false]:=fun _ _ _ _=>by kernel_rfl
theorem qpu:iG [false,true,false]:=fun _ _ _ _=>by kernel_rfl
theorem qr0:oG [true,false]:=fun _ _ _ _=>by kernel_rfl
theorem qr1:nG [true,false]:=fun _ _ _ _=>by kernel_rfl
theorem qr2:iG [true,false]:=fun _ _ _ _=>by kernel_rfl
theorem qhb:oG [false,true,true,true,true]:=fun _ _ _ _=>by kernel_rfl
theorem qhc:nG [false,true,true,true,true]:=fun _ _ _ _=>by kernel_rfl
theorem qhd:iG [false,true,true,true,true]:=fun _ _ _ _=>by kernel_rfl
theorem qhe:oG [true,false,false,true,true]:=fun _ _ _ _=>by kernel_rfl
theorem qhf:nG [true,false,false,true,true]:=fun _ _ _ _=>by kernel_rfl
theorem qhg:iG [true,false,false,true,true]:=fun _ _ _ _=>by kernel_rfl
theorem qhh:oG [false,false,true,false,true]:=fun _ _ _ _=>by kernel_rfl
theorem qhi:nG [false,false,true,false,true]:=fun _ _ _ _=>by kernel_rfl
theorem qhj:iG [false,false,true,false,true]:=fun _ _ _ _=>by kernel_rfl
theorem qhk:oG [true,true,false,false,false]:=fun _ _ _ _=>by kernel_rfl
theorem qhl:nG [true,true,false,false,false]:=fun _ _ _ _=>by kernel_rfl
theorem qhm:iG [true,true,false,false,false]:=fun _ _ _ _=>by kernel_rfl
theorem ql6:oG [false,true,true,false]:=fun _ _ _ _=>by kernel_rfl
theorem ql7:nG [false,true,true,false]:=fun _ _ _ _=>by kernel_rfl
theorem ql8:iG [false,true,true,false]:=fun _ _ _ _=>by kernel_rfl
theorem ql9:oG [true,false,false,false]:=fun _ _ _ _=>by kernel_rfl
theorem qma:nG [true,false,false,false]:=fun _ _ _ _=>by kernel_rfl
theorem qmb:iG [true,false,false,false]:=fun _ _ _ _=>by kernel_rfl
theorem qr3:oG [true,true]:=fun _ _ _ _=>by kernel_rfl
theorem qr4:nG [true,true]:=fun _ _ _ _=>by kernel_rfl
theorem qr5:iG [true,true]:=fun _ _ _ _=>by kernel_rfl
theorem qr6:oG [false,true]:=fun _ _ _ _=>by kernel_rfl
theorem qr7:nG [false,true]:=fun _ _ _ _=>by kernel_rfl
theorem qr8:iG [false,true]:=fun _ _ _ _=>by kernel_rfl
end Go.Proofs.Ytaljcpoopmedmaa.Ev

/- Graphs of functions built of pieces: what the code tells of some of them, by runs. -/
import Derived.Test.YtaljcpoopmedmaaGb
namespace Go.Proofs.Ytaljcpoopmedmaa.Ev
open Go Go.RowKit Go.Proofs.Ytaljcpoopmedmaa.Ms
set_option maxRecDepth 100000
theorem qiw:oG [false,false,true,true,true]:=fun _ _ _ _=>by kernel_rfl
theorem qix:nG [false,false,true,true,true]:=fun _ _ _ _=>by kernel_rfl
theorem qiy:iG [false,false,true,true,true]:=fun _ _ _ _=>by kernel_rfl
theorem qiz:oG [false,true,true,false,true]:=fun _ _ _ _=>by kernel_rfl
theorem qi0:nG [false,true,true,false,true]:=fun _ _ _ _=>by kernel_rfl
theorem qi1:iG [false,true,true,false,true]:=fun _ _ _ _=>by kernel_rfl
theorem qm3:oG [true,true,true,true]:=fun _ _ _ _=>by kernel_rfl
theorem qm4:nG [true,true,true,true]:=fun _ _ _ _=>by kernel_rfl
theorem qm5:iG [true,true,true,true]:=fun _ _ _ _=>by kernel_rfl
theorem qi2:oG [true,false,true,false,false]:=fun _ _ _ _=>by kernel_rfl
theorem qi3:nG [true,false,true,false,false]:=fun _ _ _ _=>by kernel_rfl
theorem qi4:iG [true,false,true,false,false]:=fun _ _ _ _=>by kernel_rfl
theorem qi5:oG [false,false,true,false,false]:=fun _ _ _ _=>by kernel_rfl
theorem qi6:nG [false,false,true,false,false]:=fun _ _ _ _=>by kernel_rfl
theorem qi7:iG [false,false,true,false,false]:=fun _ _ _ _=>by kernel_rfl
theorem qm6:oG [true,true,false,false]:=fun _ _ _ _=>by kernel_rfl
theorem qm7:nG [true,true,false,false]:=fun _ _ _ _=>by kernel_rfl
theorem qm8:iG [true,true,false,false]:=fun _ _ _ _=>by kernel_rfl
theorem qm9:oG [false,false,false,false]:=fun _ _ _ _=>by kernel_rfl
theorem qna:nG [false,false,false,false]:=fun _ _ _ _=>by kernel_rfl
theorem qnb:iG [false,false,false,false]:=fun _ _ _ _=>by kernel_rfl
theorem qr9:oG [false,false]:=fun _ _ _ _=>by kernel_rfl
theorem qsa:nG [false,false]:=fun _ _ _ _=>by kernel_rfl
theorem qsb:iG [false,false]:=fun _ _ _ _=>by kernel_rfl
theorem qi8:oG [false,true,false,true,true]:=fun _ _ _ _=>by kernel_rfl
theorem qi9:nG [false,true,false,true,true]:=fun _ _ _ _=>by kernel_rfl
theorem qja:iG [false,true,false,true,true]:=fun _ _ _ _=>by kernel_rfl
theorem qjb:oG [false,true,true,true,false]:=fun _ _ _ _=>by kernel_rfl
theorem qjc:nG [false,true,true,true,false]:=fun _ _ _ _=>by kernel_rfl
theorem qjd:iG [false,true,true,true,false]:=fun _ _ _ _=>by kernel_rfl
theorem qje:oG [false,false,false,true,true]:=fun _ _ _ _=>by kernel_rfl
theorem qjf:nG [false,false,false,true,true]:=fun _ _ _ _=>by kernel_rfl
theorem qjg:iG [false,false,false,true,true]:=fun _ _ _ _=>by kernel_rfl
theorem qjh:oG [true,false,false,true,false]:=fun _ _ _ _=>by kernel_rfl
theorem qji:nG [true,false,false,true,false]:=fun _ _ _ _=>by kernel_rfl
theorem qjj:iG [true,false,false,true,false]:=fun _ _ _ _=>by kernel_rfl
theorem qjk:oG [false,false,false,true,false]:=fun _ _ _ _=>by kernel_rfl
theorem qjl:nG [false,false,false,true,false]:=fun _ _ _ _=>by kernel_rfl
theorem qjm:iG [false,false,false,true,false]:=fun _ _ _ _=>by kernel_rfl
theorem qnc:oG [true,false,true,false]:=fun _ _ _ _=>by kernel_rfl
theorem qnd:nG [true,false,true,false]:=fun _ _ _ _=>by kernel_rfl
theorem qne:iG [true,false,true,false]:=fun _ _ _ _=>by kernel_rfl
theorem qp7:oG [false,false,true]:=fun _ _ _ _=>by kernel_rfl
theorem qp8:nG [false,false,true]:=fun _ _ _ _=>by kernel_rfl
theorem qp9:iG [false,false,true]:=fun _ _ _ _=>by kernel_rfl
theorem qqa:oG [false,false,false]:=fun _ _ _ _=>by kernel_rfl
theorem qqb:nG [false,false,false]:=fun _ _ _ _=>by kernel_rfl
theorem qqc:iG [false,false,false]:=fun _ _ _ _=>by kernel_rfl
end Go.Proofs.Ytaljcpoopmedmaa.Ev

/- Graphs of functions built of pieces: what the code tells of some of them, by runs. -/
import Derived.Test.YtehhjbfmjdlcjaaGb
namespace Go.Proofs.Ytehhjbfmjdlcjaa.Ev
open Go Go.RowKit Go.Proofs.Ytehhjbfmjdlcjaa.Ms
set_option maxRecDepth 100000
theorem qmm:oG [true,false,true,true,true]:=fun _ _ _ _=>by kernel_rfl
theorem qmn:nG [true,false,true,true,true]:=fun _ _ _ _=>by kernel_rfl
theorem qmo:iG [true,false,true,true,true]:=fun _ _ _ _=>by kernel_rfl
theorem qmp:tG [true,false,true,true,true]:=fun _ _ _ _=>by kernel_rfl
theorem qmq:oG [true,false,true,false,true]:=fun _ _ _ _=>by kernel_rfl
theorem qmr:nG [true,false,true,false,true]:=fun _ _ _ _=>by kernel_rfl
theorem qms:iG [true,false,true,false,true]:=fun _ _ _ _=>by kernel_rfl
theorem qmt:tG [true,false,true,false,true]:=fun _ _ _ _=>by kernel_rfl
theorem qmu:oG [false,false,true,true,false]:=fun _ _ _ _=>by kernel_rfl
theorem qmv:nG [false,false,true,true,false]:=fun _ _ _ _=>by kernel_rfl
theorem qmw:iG [false,false,true,true,false]:=fun _ _ _ _=>by kernel_rfl
theorem qmx:tG [false,false,true,true,false]:=fun _ _ _ _=>by kernel_rfl
theorem qsr:oG [false,true,true,true]:=fun _ _ _ _=>by kernel_rfl
theorem qss:nG [false,true,true,true]:=fun _ _ _ _=>by kernel_rfl
theorem qst:iG [false,true,true,true]:=fun _ _ _ _=>by kernel_rfl
theorem qsu:tG [false,true,true,true]:=fun _ _ _ _=>by kernel_rfl
theorem qmy:oG [false,true,false,false,false]:=fun _ _ _ _=>by kernel_rfl
theorem qmz:nG [false,true,false,false,false]:=fun _ _ _ _=>by kernel_rfl
theorem qm0:iG [false,true,false,false,false]:=fun _ _ _ _=>by kernel_rfl
theorem qm1:tG [false,true,false,false,false]:=fun _ _ _ _=>by kernel_rfl
theorem qsv:oG [false,false,true,false]:=fun _ _ _ _=>by kernel_rfl
theorem qsw:nG [false,false,true,false]:=fun _ _ _ _=>by kernel_rfl
theorem qsx:iG [false,false,true,false]:=fun _ _ _ _=>by kernel_rfl
theorem qsy:tG [false,false,true,false]:=fun _ _ _ _=>by kernel_rfl
theorem qw9:oG [true,true,false]:=fun _ _ _ _=>by kernel_rfl
theorem qxa:nG [true,true,false]:=fun _ _ _ _=>by kernel_rfl
theorem qxb:iG [true,true,false]:=fun _ _ _ _=>by kernel_rfl
theorem qxc:tG [true,true,false]:=fun _ _ _ _=>by kernel_rfl
theorem qm2:oG [true,true,false,true,true]:=fun _ _ _ _=>by kernel_rfl
theorem qm3:nG [true,true,false,true,true]:=fun _ _ _ _=>by kernel_rfl
theorem qm4:iG [true,true,false,true,true]:=fun _ _ _ _=>by kernel_rfl
theorem qm5:tG [true,true,false,true,true]:=fun _ _ _ _=>by kernel_rfl
theorem qm6:oG [true,false,true,true,false]:=fun _ _ _ _=>by kernel_rfl
theorem qm7:nG [true,false,true,true,false]:=fun _ _ _ _=>by kernel_rfl
theorem qm8:iG [true,false,true,true,false]:=fun _ _ _ _=>by kernel_rfl
theorem qm9:tG [true,false,true,true,false]:=fun _ _ _ _=>by kernel_rfl
theorem qna:oG [false,true,false,false,true]:=fun _ _ _ _=>by kernel_rfl
theorem qnb:nG [false,true,false,false,true]:=fun _ _ _ _=>by kernel_rfl
theorem qnc:iG [false,true,false,false,true]:=fun _ _ _ _=>by kernel_rfl
theorem qnd:tG [false,true,false,false,true]:=fun _ _ _ _=>by kernel_rfl
theorem qsz:oG [true,false,true,true]:=fun _ _ _ _=>by kernel_rfl
theorem qs0:nG [true,false,true,true]:=fun _ _ _ _=>by kernel_rfl
theorem qs1:iG [true,false,true,true]:=fun _ _ _ _=>by kernel_rfl
theorem qs2:tG [true,false,true,true]:=fun _ _ _ _=>by kernel_rfl
theorem qne:oG [true,false,false,false,false]:=fun _ _ _ _=>by kernel_rfl
theorem qnf:nG [true,false,false,false,false]:=fun _ _ _ _=>by kernel_rfl
theorem qng:iG [true,false,false,false,false]:=fun _ _ _ _=>by kernel_rfl
theorem qnh:tG [true,false,false,false,false]:=fun _ _ _ _=>by kernel_rfl
theorem qs3:oG [false,true,false,false]:=fun _ _ _ _=>by kernel_rfl
theorem qs4:nG [false,true,false,false]:=fun _ _ _ _=>by kernel_rfl
theorem qs5:iG [false,true,false,false]:=fun _ _ _ _=>by kernel_rfl
theorem qs6:tG [false,true,false,false]:=fun _ _ _ _=>by kernel_rfl
theorem qni:oG [false,false,false,false,false]:=fun _ _ _ _=>by kernel_rfl
theorem qnj:nG [false,false,false,false,false]:=fun _ _ _ _=>by kernel_rfl
theorem qnk:iG [false,false,false,false,false]:=fun _ _ _ _=>by kernel_rfl
theorem qnl:tG [false,false,false,false,false]:=fun _ _ _ _=>by kernel_rfl
theorem o_t:oG [true]:=fun _ _ _ _=>by kernel_rfl
theorem n_t:nG [true]:=fun _ _ _ _=>by kernel_rfl
theorem i_t:iG [true]:=fun _ _ _ _=>by kernel_rfl
theorem t_t:tG [true]:=fun _ _ _ _=>by kernel_rfl
end Go.Proofs.Ytehhjbfmjdlcjaa.Ev

/- Graphs of functions built of pieces: what the code tells of some of them, by runs. -/
import Derived.Test.YtehhjbfmjdlcjaaGb
namespace Go.Proofs.Ytehhjbfmjdlcjaa.Ev
open Go Go.RowKit Go.Proofs.Ytehhjbfmjdlcjaa.Ms
set_option maxRecDepth 100000
theorem qmr:oG [true,false,true,true,true]:=fun _ _ _ _=>by kernel_rfl
theorem qms:nG [true,false,true,true,true]:=fun _ _ _ _=>by kernel_rfl
theorem qmt:iG [true,false,true,true,true]:=fun _ _ _ _=>by kernel_rfl
theorem qmu:tG [true,false,true,true,true]:=fun _ _ _ _=>by kernel_rfl
theorem qmv:oG [true,false,true,false,true]:=fun _ _ _ _=>by kernel_rfl
theorem qmw:nG [true,false,true,false,true]:=fun _ _ _ _=>by kernel_rfl
theorem qmx:iG [true,false,true,false,true]:=fun _ _ _ _=>by kernel_rfl
theorem qmy:tG [true,false,true,false,true]:=fun _ _ _ _=>by kernel_rfl
theorem qmz:oG [false,false,true,true,false]:=fun _ _ _ _=>by kernel_rfl
theorem qm0:nG [false,false,true,true,false]:=fun _ _ _ _=>by kernel_rfl
theorem qm1:iG [false,false,true,true,false]:=fun _ _ _ _=>by kernel_rfl
theorem qm2:tG [false,false,true,true,false]:=fun _ _ _ _=>by kernel_rfl
theorem qsw:oG [false,true,true,true]:=fun _ _ _ _=>by kernel_rfl
theorem qsx:nG [false,true,true,true]:=fun _ _ _ _=>by kernel_rfl
theorem qsy:iG [false,true,true,true]:=fun _ _ _ _=>by kernel_rfl
theorem qsz:tG [false,true,true,true]:=fun _ _ _ _=>by kernel_rfl
theorem qm3:oG [false,true,false,false,false]:=fun _ _ _ _=>by kernel_rfl
theorem qm4:nG [false,true,false,false,false]:=fun _ _ _ _=>by kernel_rfl
theorem qm5:iG [false,true,false,false,false]:=fun _ _ _ _=>by kernel_rfl
theorem qm6:tG [false,true,false,false,false]:=fun _ _ _ _=>by kernel_rfl
theorem qs0:oG [false,false,true,false]:=fun _ _ _ _=>by kernel_rfl
theorem qs1:nG [false,false,true,false]:=fun _ _ _ _=>by kernel_rfl
theorem qs2:iG [false,false,true,false]:=fun _ _ _ _=>by kernel_rfl
theorem qs3:tG [false,false,true,false]:=fun _ _ _ _=>by kernel_rfl
theorem qxd:oG [true,true,false]:=fun _ _ _ _=>by kernel_rfl
theorem qxe:nG [true,true,false]:=fun _ _ _ _=>by kernel_rfl
theorem qxf:iG [true,true,false]:=fun _ _ _ _=>by kernel_rfl
theorem qxg:tG [true,true,false]:=fun _ _ _ _=>by kernel_rfl
theorem qm7:oG [true,true,false,true,true]:=fun _ _ _ _=>by kernel_rfl
theorem qm8:nG [true,true,false,true,true]:=fun _ _ _ _=>by kernel_rfl
theorem qm9:iG [true,true,false,true,true]:=fun _ _ _ _=>by kernel_rfl
theorem qna:tG [true,true,false,true,true]:=fun _ _ _ _=>by kernel_rfl
theorem qnb:oG [true,false,true,true,false]:=fun _ _ _ _=>by kernel_rfl
theorem qnc:nG [true,false,true,true,false]:=fun _ _ _ _=>by kernel_rfl
theorem qnd:iG [true,false,true,true,false]:=fun _ _ _ _=>by kernel_rfl
theorem qne:tG [true,false,true,true,false]:=fun _ _ _ _=>by kernel_rfl
theorem qnf:oG [false,true,false,false,true]:=fun _ _ _ _=>by kernel_rfl
theorem qng:nG [false,true,false,false,true]:=fun _ _ _ _=>by kernel_rfl
theorem qnh:iG [false,true,false,false,true]:=fun _ _ _ _=>by kernel_rfl
theorem qni:tG [false,true,false,false,true]:=fun _ _ _ _=>by kernel_rfl
theorem qs4:oG [true,false,true,true]:=fun _ _ _ _=>by kernel_rfl
theorem qs5:nG [true,false,true,true]:=fun _ _ _ _=>by kernel_rfl
theorem qs6:iG [true,false,true,true]:=fun _ _ _ _=>by kernel_rfl
theorem qs7:tG [true,false,true,true]:=fun _ _ _ _=>by kernel_rfl
theorem qnj:oG [true,false,false,false,false]:=fun _ _ _ _=>by kernel_rfl
theorem qnk:nG [true,false,false,false,false]:=fun _ _ _ _=>by kernel_rfl
theorem qnl:iG [true,false,false,false,false]:=fun _ _ _ _=>by kernel_rfl
theorem qnm:tG [true,false,false,false,false]:=fun _ _ _ _=>by kernel_rfl
theorem qs8:oG [false,true,false,false]:=fun _ _ _ _=>by kernel_rfl
theorem qs9:nG [false,true,false,false]:=fun _ _ _ _=>by kernel_rfl
theorem qta:iG [false,true,false,false]:=fun _ _ _ _=>by kernel_rfl
theorem qtb:tG [false,true,false,false]:=fun _ _ _ _=>by kernel_rfl
theorem qnn:oG [false,false,false,false,false]:=fun _ _ _ _=>by kernel_rfl
theorem qno:nG [false,false,false,false,false]:=fun _ _ _ _=>by kernel_rfl
theorem qnp:iG [false,false,false,false,false]:=fun _ _ _ _=>by kernel_rfl
theorem qnq:tG [false,false,false,false,false]:=fun _ _ _ _=>by kernel_rfl
theorem o_t:oG [true]:=fun _ _ _ _=>by kernel_rfl
theorem n_t:nG [true]:=fun _ _ _ _=>by kernel_rfl
theorem i_t:iG [true]:=fun _ _ _ _=>by kernel_rfl
theorem t_t:tG [true]:=fun _ _ _ _=>by kernel_rfl
end Go.Proofs.Ytehhjbfmjdlcjaa.Ev

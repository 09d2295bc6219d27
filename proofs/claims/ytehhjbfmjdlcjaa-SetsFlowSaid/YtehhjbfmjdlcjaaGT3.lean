/- Graphs of functions built of pieces: what the code tells of some of them, by runs. -/
import Derived.Test.YtehhjbfmjdlcjaaGb
namespace Go.Proofs.Ytehhjbfmjdlcjaa.Ev
open Go Go.RowKit Go.Proofs.Ytehhjbfmjdlcjaa.Ms
set_option maxRecDepth 100000
theorem qlb:oG [true,false,true,true,true]:=fun _ _ _ _=>by kernel_rfl
theorem qlc:nG [true,false,true,true,true]:=fun _ _ _ _=>by kernel_rfl
theorem qld:iG [true,false,true,true,true]:=fun _ _ _ _=>by kernel_rfl
theorem qle:tG [true,false,true,true,true]:=fun _ _ _ _=>by kernel_rfl
theorem qlf:oG [true,false,true,false,true]:=fun _ _ _ _=>by kernel_rfl
theorem qlg:nG [true,false,true,false,true]:=fun _ _ _ _=>by kernel_rfl
theorem qlh:iG [true,false,true,false,true]:=fun _ _ _ _=>by kernel_rfl
theorem qli:tG [true,false,true,false,true]:=fun _ _ _ _=>by kernel_rfl
theorem qlj:oG [false,false,true,true,false]:=fun _ _ _ _=>by kernel_rfl
theorem qlk:nG [false,false,true,true,false]:=fun _ _ _ _=>by kernel_rfl
theorem qll:iG [false,false,true,true,false]:=fun _ _ _ _=>by kernel_rfl
theorem qlm:tG [false,false,true,true,false]:=fun _ _ _ _=>by kernel_rfl
theorem qq9:oG [false,true,true,true]:=fun _ _ _ _=>by kernel_rfl
theorem qra:nG [false,true,true,true]:=fun _ _ _ _=>by kernel_rfl
theorem qrb:iG [false,true,true,true]:=fun _ _ _ _=>by kernel_rfl
theorem qrc:tG [false,true,true,true]:=fun _ _ _ _=>by kernel_rfl
theorem qln:oG [false,true,false,false,false]:=fun _ _ _ _=>by kernel_rfl
theorem qlo:nG [false,true,false,false,false]:=fun _ _ _ _=>by kernel_rfl
theorem qlp:iG [false,true,false,false,false]:=fun _ _ _ _=>by kernel_rfl
theorem qlq:tG [false,true,false,false,false]:=fun _ _ _ _=>by kernel_rfl
theorem qrd:oG [false,false,true,false]:=fun _ _ _ _=>by kernel_rfl
theorem qre:nG [false,false,true,false]:=fun _ _ _ _=>by kernel_rfl
theorem qrf:iG [false,false,true,false]:=fun _ _ _ _=>by kernel_rfl
theorem qrg:tG [false,false,true,false]:=fun _ _ _ _=>by kernel_rfl
theorem qvi:oG [true,true,false]:=fun _ _ _ _=>by kernel_rfl
theorem qvj:nG [true,true,false]:=fun _ _ _ _=>by kernel_rfl
theorem qvk:iG [true,true,false]:=fun _ _ _ _=>by kernel_rfl
theorem qvl:tG [true,true,false]:=fun _ _ _ _=>by kernel_rfl
theorem qlr:oG [true,true,false,true,true]:=fun _ _ _ _=>by kernel_rfl
theorem qls:nG [true,true,false,true,true]:=fun _ _ _ _=>by kernel_rfl
theorem qlt:iG [true,true,false,true,true]:=fun _ _ _ _=>by kernel_rfl
theorem qlu:tG [true,true,false,true,true]:=fun _ _ _ _=>by kernel_rfl
theorem qlv:oG [true,false,true,true,false]:=fun _ _ _ _=>by kernel_rfl
theorem qlw:nG [true,false,true,true,false]:=fun _ _ _ _=>by kernel_rfl
theorem qlx:iG [true,false,true,true,false]:=fun _ _ _ _=>by kernel_rfl
theorem qly:tG [true,false,true,true,false]:=fun _ _ _ _=>by kernel_rfl
theorem qlz:oG [false,true,false,false,true]:=fun _ _ _ _=>by kernel_rfl
theorem ql0:nG [false,true,false,false,true]:=fun _ _ _ _=>by kernel_rfl
theorem ql1:iG [false,true,false,false,true]:=fun _ _ _ _=>by kernel_rfl
theorem ql2:tG [false,true,false,false,true]:=fun _ _ _ _=>by kernel_rfl
theorem qrh:oG [true,false,true,true]:=fun _ _ _ _=>by kernel_rfl
theorem qri:nG [true,false,true,true]:=fun _ _ _ _=>by kernel_rfl
theorem qrj:iG [true,false,true,true]:=fun _ _ _ _=>by kernel_rfl
theorem qrk:tG [true,false,true,true]:=fun _ _ _ _=>by kernel_rfl
theorem ql3:oG [true,false,false,false,false]:=fun _ _ _ _=>by kernel_rfl
theorem ql4:nG [true,false,false,false,false]:=fun _ _ _ _=>by kernel_rfl
theorem ql5:iG [true,false,false,false,false]:=fun _ _ _ _=>by kernel_rfl
theorem ql6:tG [true,false,false,false,false]:=fun _ _ _ _=>by kernel_rfl
theorem qrl:oG [false,true,false,false]:=fun _ _ _ _=>by kernel_rfl
theorem qrm:nG [false,true,false,false]:=fun _ _ _ _=>by kernel_rfl
theorem qrn:iG [false,true,false,false]:=fun _ _ _ _=>by kernel_rfl
theorem qro:tG [false,true,false,false]:=fun _ _ _ _=>by kernel_rfl
theorem ql7:oG [false,false,false,false,false]:=fun _ _ _ _=>by kernel_rfl
theorem ql8:nG [false,false,false,false,false]:=fun _ _ _ _=>by kernel_rfl
theorem ql9:iG [false,false,false,false,false]:=fun _ _ _ _=>by kernel_rfl
theorem qma:tG [false,false,false,false,false]:=fun _ _ _ _=>by kernel_rfl
theorem o_t:oG [true]:=fun _ _ _ _=>by kernel_rfl
theorem n_t:nG [true]:=fun _ _ _ _=>by kernel_rfl
theorem i_t:iG [true]:=fun _ _ _ _=>by kernel_rfl
theorem t_t:tG [true]:=fun _ _ _ _=>by kernel_rfl
end Go.Proofs.Ytehhjbfmjdlcjaa.Ev

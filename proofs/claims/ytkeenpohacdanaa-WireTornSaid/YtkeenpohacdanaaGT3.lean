/- Graphs of functions built of pieces: what the code tells of some of them, by runs. -/
import Derived.Test.YtkeenpohacdanaaGb
namespace Go.Proofs.Ytkeenpohacdanaa.Ev
open Go Go.RowKit Go.Proofs.Ytkeenpohacdanaa.Ms
set_option maxRecDepth 100000
theorem qls:oG [true,false,true,true,true]:=fun _ _ _ _=>by kernel_rfl
theorem qlt:nG [true,false,true,true,true]:=fun _ _ _ _=>by kernel_rfl
theorem qlu:iG [true,false,true,true,true]:=fun _ _ _ _=>by kernel_rfl
theorem qlv:oG [true,false,true,false,true]:=fun _ _ _ _=>by kernel_rfl
theorem qlw:nG [true,false,true,false,true]:=fun _ _ _ _=>by kernel_rfl
theorem qlx:iG [true,false,true,false,true]:=fun _ _ _ _=>by kernel_rfl
theorem qly:oG [false,false,true,true,false]:=fun _ _ _ _=>by kernel_rfl
theorem qlz:nG [false,false,true,true,false]:=fun _ _ _ _=>by kernel_rfl
theorem ql0:iG [false,false,true,true,false]:=fun _ _ _ _=>by kernel_rfl
theorem qqz:oG [false,true,true,true]:=fun _ _ _ _=>by kernel_rfl
theorem qq0:nG [false,true,true,true]:=fun _ _ _ _=>by kernel_rfl
theorem qq1:iG [false,true,true,true]:=fun _ _ _ _=>by kernel_rfl
theorem ql1:oG [false,true,false,false,false]:=fun _ _ _ _=>by kernel_rfl
theorem ql2:nG [false,true,false,false,false]:=fun _ _ _ _=>by kernel_rfl
theorem ql3:iG [false,true,false,false,false]:=fun _ _ _ _=>by kernel_rfl
theorem qq2:oG [false,false,true,false]:=fun _ _ _ _=>by kernel_rfl
theorem qq3:nG [false,false,true,false]:=fun _ _ _ _=>by kernel_rfl
theorem qq4:iG [false,false,true,false]:=fun _ _ _ _=>by kernel_rfl
theorem qu0:oG [true,true,false]:=fun _ _ _ _=>by kernel_rfl
theorem qu1:nG [true,true,false]:=fun _ _ _ _=>by kernel_rfl
theorem qu2:iG [true,true,false]:=fun _ _ _ _=>by kernel_rfl
theorem ql4:oG [true,true,false,true,true]:=fun _ _ _ _=>by kernel_rfl
theorem ql5:nG [true,true,false,true,true]:=fun _ _ _ _=>by kernel_rfl
theorem ql6:iG [true,true,false,true,true]:=fun _ _ _ _=>by kernel_rfl
theorem ql7:oG [true,false,true,true,false]:=fun _ _ _ _=>by kernel_rfl
theorem ql8:nG [true,false,true,true,false]:=fun _ _ _ _=>by kernel_rfl
theorem ql9:iG [true,false,true,true,false]:=fun _ _ _ _=>by kernel_rfl
theorem qma:oG [false,true,false,false,true]:=fun _ _ _ _=>by kernel_rfl
theorem qmb:nG [false,true,false,false,true]:=fun _ _ _ _=>by kernel_rfl
theorem qmc:iG [false,true,false,false,true]:=fun _ _ _ _=>by kernel_rfl
theorem qq5:oG [true,false,true,true]:=fun _ _ _ _=>by kernel_rfl
theorem qq6:nG [true,false,true,true]:=fun _ _ _ _=>by kernel_rfl
theorem qq7:iG [true,false,true,true]:=fun _ _ _ _=>by kernel_rfl
theorem qmd:oG [true,false,false,false,false]:=fun _ _ _ _=>by kernel_rfl
theorem qme:nG [true,false,false,false,false]:=fun _ _ _ _=>by kernel_rfl
theorem qmf:iG [true,false,false,false,false]:=fun _ _ _ _=>by kernel_rfl
theorem qq8:oG [false,true,false,false]:=fun _ _ _ _=>by kernel_rfl
theorem qq9:nG [false,true,false,false]:=fun _ _ _ _=>by kernel_rfl
theorem qra:iG [false,true,false,false]:=fun _ _ _ _=>by kernel_rfl
theorem qmg:oG [false,false,false,false,false]:=fun _ _ _ _=>by kernel_rfl
theorem qmh:nG [false,false,false,false,false]:=fun _ _ _ _=>by kernel_rfl
theorem qmi:iG [false,false,false,false,false]:=fun _ _ _ _=>by kernel_rfl
theorem o_t:oG [true]:=fun _ _ _ _=>by kernel_rfl
theorem n_t:nG [true]:=fun _ _ _ _=>by kernel_rfl
theorem i_t:iG [true]:=fun _ _ _ _=>by kernel_rfl
end Go.Proofs.Ytkeenpohacdanaa.Ev

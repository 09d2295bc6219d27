/- Graphs of functions built of pieces: what the code tells of some of them, by runs. -/
import Derived.Test.YtdbklpgagdbpiaaDoorGb
namespace Go.Proofs.YtdbklpgagdbpiaaDoor.Ev
open Go Go.RowKit Go.Proofs.YtdbklpgagdbpiaaDoor.Ms
set_option maxRecDepth 100000
theorem qlq:oG [true,false,true,true,true]:=fun _ _ _ _=>by kernel_rfl
theorem qlr:nG [true,false,true,true,true]:=fun _ _ _ _=>by kernel_rfl
theorem qls:iG [true,false,true,true,true]:=fun _ _ _ _=>by kernel_rfl
theorem qlt:oG [true,false,true,false,true]:=fun _ _ _ _=>by kernel_rfl
theorem qlu:nG [true,false,true,false,true]:=fun _ _ _ _=>by kernel_rfl
theorem qlv:iG [true,false,true,false,true]:=fun _ _ _ _=>by kernel_rfl
theorem qlw:oG [false,false,true,true,false]:=fun _ _ _ _=>by kernel_rfl
theorem qlx:nG [false,false,true,true,false]:=fun _ _ _ _=>by kernel_rfl
theorem qly:iG [false,false,true,true,false]:=fun _ _ _ _=>by kernel_rfl
theorem qq3:oG [false,true,true,true]:=fun _ _ _ _=>by kernel_rfl
theorem qq4:nG [false,true,true,true]:=fun _ _ _ _=>by kernel_rfl
theorem qq5:iG [false,true,true,true]:=fun _ _ _ _=>by kernel_rfl
theorem qlz:oG [false,true,false,false,false]:=fun _ _ _ _=>by kernel_rfl
theorem ql0:nG [false,true,false,false,false]:=fun _ _ _ _=>by kernel_rfl
theorem ql1:iG [false,true,false,false,false]:=fun _ _ _ _=>by kernel_rfl
theorem qq6:oG [false,false,true,false]:=fun _ _ _ _=>by kernel_rfl
theorem qq7:nG [false,false,true,false]:=fun _ _ _ _=>by kernel_rfl
theorem qq8:iG [false,false,true,false]:=fun _ _ _ _=>by kernel_rfl
theorem qux:oG [true,true,false]:=fun _ _ _ _=>by kernel_rfl
theorem quy:nG [true,true,false]:=fun _ _ _ _=>by kernel_rfl
theorem quz:iG [true,true,false]:=fun _ _ _ _=>by kernel_rfl
theorem ql2:oG [true,true,false,true,true]:=fun _ _ _ _=>by kernel_rfl
theorem ql3:nG [true,true,false,true,true]:=fun _ _ _ _=>by kernel_rfl
theorem ql4:iG [true,true,false,true,true]:=fun _ _ _ _=>by kernel_rfl
theorem ql5:oG [true,false,true,true,false]:=fun _ _ _ _=>by kernel_rfl
theorem ql6:nG [true,false,true,true,false]:=fun _ _ _ _=>by kernel_rfl
theorem ql7:iG [true,false,true,true,false]:=fun _ _ _ _=>by kernel_rfl
theorem ql8:oG [false,true,false,false,true]:=fun _ _ _ _=>by kernel_rfl
theorem ql9:nG [false,true,false,false,true]:=fun _ _ _ _=>by kernel_rfl
theorem qma:iG [false,true,false,false,true]:=fun _ _ _ _=>by kernel_rfl
theorem qq9:oG [true,false,true,true]:=fun _ _ _ _=>by kernel_rfl
theorem qra:nG [true,false,true,true]:=fun _ _ _ _=>by kernel_rfl
theorem qrb:iG [true,false,true,true]:=fun _ _ _ _=>by kernel_rfl
theorem qmb:oG [true,false,false,false,false]:=fun _ _ _ _=>by kernel_rfl
theorem qmc:nG [true,false,false,false,false]:=fun _ _ _ _=>by kernel_rfl
theorem qmd:iG [true,false,false,false,false]:=fun _ _ _ _=>by kernel_rfl
theorem qrc:oG [false,true,false,false]:=fun _ _ _ _=>by kernel_rfl
theorem qrd:nG [false,true,false,false]:=fun _ _ _ _=>by kernel_rfl
theorem qre:iG [false,true,false,false]:=fun _ _ _ _=>by kernel_rfl
theorem qme:oG [false,false,false,false,false]:=fun _ _ _ _=>by kernel_rfl
theorem qmf:nG [false,false,false,false,false]:=fun _ _ _ _=>by kernel_rfl
theorem qmg:iG [false,false,false,false,false]:=fun _ _ _ _=>by kernel_rfl
theorem o_t:oG [true]:=fun _ _ _ _=>by kernel_rfl
theorem n_t:nG [true]:=fun _ _ _ _=>by kernel_rfl
theorem i_t:iG [true]:=fun _ _ _ _=>by kernel_rfl
end Go.Proofs.YtdbklpgagdbpiaaDoor.Ev

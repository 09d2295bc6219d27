/- Graphs of functions built of pieces: what the code tells of some of them, by runs. -/
import Derived.Test.YtalbjjoppndjjaaGb
namespace Go.Proofs.Ytalbjjoppndjjaa.Ev
open Go Go.RowKit Go.Proofs.Ytalbjjoppndjjaa.Ms
set_option maxRecDepth 100000
theorem qi2:oG [true,false,true,true,true]:=fun _ _ _ _=>by kernel_rfl
theorem qi3:nG [true,false,true,true,true]:=fun _ _ _ _=>by kernel_rfl
theorem qi4:iG [true,false,true,true,true]:=fun _ _ _ _=>by kernel_rfl
theorem qi5:oG [true,false,true,false,true]:=fun _ _ _ _=>by kernel_rfl
theorem qi6:nG [true,false,true,false,true]:=fun _ _ _ _=>by kernel_rfl
theorem qi7:iG [true,false,true,false,true]:=fun _ _ _ _=>by kernel_rfl
theorem qi8:oG [false,false,true,true,false]:=fun _ _ _ _=>by kernel_rfl
theorem qi9:nG [false,false,true,true,false]:=fun _ _ _ _=>by kernel_rfl
theorem qja:iG [false,false,true,true,false]:=fun _ _ _ _=>by kernel_rfl
theorem qoa:oG [false,true,true,true]:=fun _ _ _ _=>by kernel_rfl
theorem qob:nG [false,true,true,true]:=fun _ _ _ _=>by kernel_rfl
theorem qoc:iG [false,true,true,true]:=fun _ _ _ _=>by kernel_rfl
theorem qjb:oG [false,true,false,false,false]:=fun _ _ _ _=>by kernel_rfl
theorem qjc:nG [false,true,false,false,false]:=fun _ _ _ _=>by kernel_rfl
theorem qjd:iG [false,true,false,false,false]:=fun _ _ _ _=>by kernel_rfl
theorem qod:oG [false,false,true,false]:=fun _ _ _ _=>by kernel_rfl
theorem qoe:nG [false,false,true,false]:=fun _ _ _ _=>by kernel_rfl
theorem qof:iG [false,false,true,false]:=fun _ _ _ _=>by kernel_rfl
theorem qsg:oG [true,true,false]:=fun _ _ _ _=>by kernel_rfl
theorem qsh:nG [true,true,false]:=fun _ _ _ _=>by kernel_rfl
theorem qsi:iG [true,true,false]:=fun _ _ _ _=>by kernel_rfl
theorem qje:oG [true,true,false,true,true]:=fun _ _ _ _=>by kernel_rfl
theorem qjf:nG [true,true,false,true,true]:=fun _ _ _ _=>by kernel_rfl
theorem qjg:iG [true,true,false,true,true]:=fun _ _ _ _=>by kernel_rfl
theorem qjh:oG [true,false,true,true,false]:=fun _ _ _ _=>by kernel_rfl
theorem qji:nG [true,false,true,true,false]:=fun _ _ _ _=>by kernel_rfl
theorem qjj:iG [true,false,true,true,false]:=fun _ _ _ _=>by kernel_rfl
theorem qjk:oG [false,true,false,false,true]:=fun _ _ _ _=>by kernel_rfl
theorem qjl:nG [false,true,false,false,true]:=fun _ _ _ _=>by kernel_rfl
theorem qjm:iG [false,true,false,false,true]:=fun _ _ _ _=>by kernel_rfl
theorem qog:oG [true,false,true,true]:=fun _ _ _ _=>by kernel_rfl
theorem qoh:nG [true,false,true,true]:=fun _ _ _ _=>by kernel_rfl
theorem qoi:iG [true,false,true,true]:=fun _ _ _ _=>by kernel_rfl
theorem qjn:oG [true,false,false,false,false]:=fun _ _ _ _=>by kernel_rfl
theorem qjo:nG [true,false,false,false,false]:=fun _ _ _ _=>by kernel_rfl
theorem qjp:iG [true,false,false,false,false]:=fun _ _ _ _=>by kernel_rfl
theorem qoj:oG [false,true,false,false]:=fun _ _ _ _=>by kernel_rfl
theorem qok:nG [false,true,false,false]:=fun _ _ _ _=>by kernel_rfl
theorem qol:iG [false,true,false,false]:=fun _ _ _ _=>by kernel_rfl
theorem qjq:oG [false,false,false,false,false]:=fun _ _ _ _=>by kernel_rfl
theorem qjr:nG [false,false,false,false,false]:=fun _ _ _ _=>by kernel_rfl
theorem qjs:iG [false,false,false,false,false]:=fun _ _ _ _=>by kernel_rfl
theorem o_t:oG [true]:=fun _ _ _ _=>by kernel_rfl
theorem n_t:nG [true]:=fun _ _ _ _=>by kernel_rfl
theorem i_t:iG [true]:=fun _ _ _ _=>by kernel_rfl
end Go.Proofs.Ytalbjjoppndjjaa.Ev

/- Graphs of functions built of pieces: what the code tells of some of them, by runs. -/
import Derived.Test.YtkeenpohacdanaaGb
namespace Go.Proofs.Ytkeenpohacdanaa.Ev
open Go Go.RowKit Go.Proofs.Ytkeenpohacdanaa.Ms
set_option maxRecDepth 100000
theorem qf4:oG [true,false,true,true,true]:=fun _ _ _ _=>by kernel_rfl
theorem qf5:nG [true,false,true,true,true]:=fun _ _ _ _=>by kernel_rfl
theorem qf6:iG [true,false,true,true,true]:=fun _ _ _ _=>by kernel_rfl
theorem qf7:oG [true,false,true,false,true]:=fun _ _ _ _=>by kernel_rfl
theorem qf8:nG [true,false,true,false,true]:=fun _ _ _ _=>by kernel_rfl
theorem qf9:iG [true,false,true,false,true]:=fun _ _ _ _=>by kernel_rfl
theorem qga:oG [false,false,true,true,false]:=fun _ _ _ _=>by kernel_rfl
theorem qgb:nG [false,false,true,true,false]:=fun _ _ _ _=>by kernel_rfl
theorem qgc:iG [false,false,true,true,false]:=fun _ _ _ _=>by kernel_rfl
theorem qk2:oG [false,true,true,true]:=fun _ _ _ _=>by kernel_rfl
theorem qk3:nG [false,true,true,true]:=fun _ _ _ _=>by kernel_rfl
theorem qk4:iG [false,true,true,true]:=fun _ _ _ _=>by kernel_rfl
theorem qgd:oG [false,true,false,false,false]:=fun _ _ _ _=>by kernel_rfl
theorem qge:nG [false,true,false,false,false]:=fun _ _ _ _=>by kernel_rfl
theorem qgf:iG [false,true,false,false,false]:=fun _ _ _ _=>by kernel_rfl
theorem qk5:oG [false,false,true,false]:=fun _ _ _ _=>by kernel_rfl
theorem qk6:nG [false,false,true,false]:=fun _ _ _ _=>by kernel_rfl
theorem qk7:iG [false,false,true,false]:=fun _ _ _ _=>by kernel_rfl
theorem qol:oG [true,true,false]:=fun _ _ _ _=>by kernel_rfl
theorem qom:nG [true,true,false]:=fun _ _ _ _=>by kernel_rfl
theorem qon:iG [true,true,false]:=fun _ _ _ _=>by kernel_rfl
theorem qgg:oG [true,true,false,true,true]:=fun _ _ _ _=>by kernel_rfl
theorem qgh:nG [true,true,false,true,true]:=fun _ _ _ _=>by kernel_rfl
theorem qgi:iG [true,true,false,true,true]:=fun _ _ _ _=>by kernel_rfl
theorem qgj:oG [true,false,true,true,false]:=fun _ _ _ _=>by kernel_rfl
theorem qgk:nG [true,false,true,true,false]:=fun _ _ _ _=>by kernel_rfl
theorem qgl:iG [true,false,true,true,false]:=fun _ _ _ _=>by kernel_rfl
theorem qgm:oG [false,true,false,false,true]:=fun _ _ _ _=>by kernel_rfl
theorem qgn:nG [false,true,false,false,true]:=fun _ _ _ _=>by kernel_rfl
theorem qgo:iG [false,true,false,false,true]:=fun _ _ _ _=>by kernel_rfl
theorem qk8:oG [true,false,true,true]:=fun _ _ _ _=>by kernel_rfl
theorem qk9:nG [true,false,true,true]:=fun _ _ _ _=>by kernel_rfl
theorem qla:iG [true,false,true,true]:=fun _ _ _ _=>by kernel_rfl
theorem qgp:oG [true,false,false,false,false]:=fun _ _ _ _=>by kernel_rfl
theorem qgq:nG [true,false,false,false,false]:=fun _ _ _ _=>by kernel_rfl
theorem qgr:iG [true,false,false,false,false]:=fun _ _ _ _=>by kernel_rfl
theorem qlb:oG [false,true,false,false]:=fun _ _ _ _=>by kernel_rfl
theorem qlc:nG [false,true,false,false]:=fun _ _ _ _=>by kernel_rfl
theorem qld:iG [false,true,false,false]:=fun _ _ _ _=>by kernel_rfl
theorem qgs:oG [false,false,false,false,false]:=fun _ _ _ _=>by kernel_rfl
theorem qgt:nG [false,false,false,false,false]:=fun _ _ _ _=>by kernel_rfl
theorem qgu:iG [false,false,false,false,false]:=fun _ _ _ _=>by kernel_rfl
theorem o_t:oG [true]:=fun _ _ _ _=>by kernel_rfl
theorem n_t:nG [true]:=fun _ _ _ _=>by kernel_rfl
theorem i_t:iG [true]:=fun _ _ _ _=>by kernel_rfl
end Go.Proofs.Ytkeenpohacdanaa.Ev

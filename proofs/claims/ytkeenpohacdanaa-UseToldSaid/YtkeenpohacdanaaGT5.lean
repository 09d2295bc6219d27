/- Graphs of functions built of pieces: what the code tells of some of them, by runs. -/
import Derived.Test.YtkeenpohacdanaaGb
namespace Go.Proofs.Ytkeenpohacdanaa.Ev
open Go Go.RowKit Go.Proofs.Ytkeenpohacdanaa.Ms
set_option maxRecDepth 100000
theorem qgv:oG [true,true,true,false,true]:=fun _ _ _ _=>by kernel_rfl
theorem qgw:nG [true,true,true,false,true]:=fun _ _ _ _=>by kernel_rfl
theorem qgx:iG [true,true,true,false,true]:=fun _ _ _ _=>by kernel_rfl
theorem qgy:oG [true,true,false,false,true]:=fun _ _ _ _=>by kernel_rfl
theorem qgz:nG [true,true,false,false,true]:=fun _ _ _ _=>by kernel_rfl
theorem qg0:iG [true,true,false,false,true]:=fun _ _ _ _=>by kernel_rfl
theorem qg1:oG [false,true,false,true,false]:=fun _ _ _ _=>by kernel_rfl
theorem qg2:nG [false,true,false,true,false]:=fun _ _ _ _=>by kernel_rfl
theorem qg3:iG [false,true,false,true,false]:=fun _ _ _ _=>by kernel_rfl
theorem qle:oG [true,true,false,true]:=fun _ _ _ _=>by kernel_rfl
theorem qlf:nG [true,true,false,true]:=fun _ _ _ _=>by kernel_rfl
theorem qlg:iG [true,true,false,true]:=fun _ _ _ _=>by kernel_rfl
theorem qlh:oG [false,false,true,true]:=fun _ _ _ _=>by kernel_rfl
theorem qli:nG [false,false,true,true]:=fun _ _ _ _=>by kernel_rfl
theorem qlj:iG [false,false,true,true]:=fun _ _ _ _=>by kernel_rfl
theorem qoo:oG [true,true,true]:=fun _ _ _ _=>by kernel_rfl
theorem qop:nG [true,true,true]:=fun _ _ _ _=>by kernel_rfl
theorem qoq:iG [true,true,true]:=fun _ _ _ _=>by kernel_rfl
theorem qor:oG [true,false,false]:=fun _ _ _ _=>by kernel_rfl
theorem qos:nG [true,false,false]:=fun _ _ _ _=>by kernel_rfl
theorem qot:iG [true,false,false]:=fun _ _ _ _=>by kernel_rfl
theorem o_f:oG [false]:=fun _ _ _ _=>by kernel_rfl
theorem n_f:nG [false]:=fun _ _ _ _=>by kernel_rfl
theorem i_f:iG [false]:=fun _ _ _ _=>by kernel_rfl
theorem o_:oG []:=fun _ _ _ _=>by kernel_rfl
theorem n_:nG []:=fun _ _ _ _=>by kernel_rfl
theorem i_:iG []:=fun _ _ _ _=>by kernel_rfl
theorem qg4:oG [true,true,true,true,false]:=fun _ _ _ _=>by kernel_rfl
theorem qg5:nG [true,true,true,true,false]:=fun _ _ _ _=>by kernel_rfl
theorem qg6:iG [true,true,true,true,false]:=fun _ _ _ _=>by kernel_rfl
theorem qg7:oG [true,true,false,true,false]:=fun _ _ _ _=>by kernel_rfl
theorem qg8:nG [true,true,false,true,false]:=fun _ _ _ _=>by kernel_rfl
theorem qg9:iG [true,true,false,true,false]:=fun _ _ _ _=>by kernel_rfl
theorem qha:oG [false,true,true,false,false]:=fun _ _ _ _=>by kernel_rfl
theorem qhb:nG [false,true,true,false,false]:=fun _ _ _ _=>by kernel_rfl
theorem qhc:iG [false,true,true,false,false]:=fun _ _ _ _=>by kernel_rfl
theorem qlk:oG [true,true,true,false]:=fun _ _ _ _=>by kernel_rfl
theorem qll:nG [true,true,true,false]:=fun _ _ _ _=>by kernel_rfl
theorem qlm:iG [true,true,true,false]:=fun _ _ _ _=>by kernel_rfl
theorem qln:oG [false,true,false,true]:=fun _ _ _ _=>by kernel_rfl
theorem qlo:nG [false,true,false,true]:=fun _ _ _ _=>by kernel_rfl
theorem qlp:iG [false,true,false,true]:=fun _ _ _ _=>by kernel_rfl
theorem qlq:oG [false,false,false,true]:=fun _ _ _ _=>by kernel_rfl
theorem qlr:nG [false,false,false,true]:=fun _ _ _ _=>by kernel_rfl
theorem qls:iG [false,false,false,true]:=fun _ _ _ _=>by kernel_rfl
theorem qou:oG [true,false,true]:=fun _ _ _ _=>by kernel_rfl
theorem qov:nG [true,false,true]:=fun _ _ _ _=>by kernel_rfl
theorem qow:iG [true,false,true]:=fun _ _ _ _=>by kernel_rfl
end Go.Proofs.Ytkeenpohacdanaa.Ev

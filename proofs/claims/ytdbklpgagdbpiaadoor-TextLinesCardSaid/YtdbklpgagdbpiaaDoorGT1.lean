/- Graphs of functions built of pieces: what the code tells of some of them, by runs. -/
import Derived.Test.YtdbklpgagdbpiaaDoorGb
namespace Go.Proofs.YtdbklpgagdbpiaaDoor.Ev
open Go Go.RowKit Go.Proofs.YtdbklpgagdbpiaaDoor.Ms
set_option maxRecDepth 100000
theorem qk2:oG [true,true,true,true,true]:=fun _ _ _ _=>by kernel_rfl
theorem qk3:nG [true,true,true,true,true]:=fun _ _ _ _=>by kernel_rfl
theorem qk4:iG [true,true,true,true,true]:=fun _ _ _ _=>by kernel_rfl
theorem qk5:oG [true,true,true,false,false]:=fun _ _ _ _=>by kernel_rfl
theorem qk6:nG [true,true,true,false,false]:=fun _ _ _ _=>by kernel_rfl
theorem qk7:iG [true,true,true,false,false]:=fun _ _ _ _=>by kernel_rfl
theorem qk8:oG [true,false,false,false,true]:=fun _ _ _ _=>by kernel_rfl
theorem qk9:nG [true,false,false,false,true]:=fun _ _ _ _=>by kernel_rfl
theorem qla:iG [true,false,false,false,true]:=fun _ _ _ _=>by kernel_rfl
theorem qlb:oG [false,false,false,false,true]:=fun _ _ _ _=>by kernel_rfl
theorem qlc:nG [false,false,false,false,true]:=fun _ _ _ _=>by kernel_rfl
theorem qld:iG [false,false,false,false,true]:=fun _ _ _ _=>by kernel_rfl
theorem qqu:oG [true,false,false,true]:=fun _ _ _ _=>by kernel_rfl
theorem qqv:nG [true,false,false,true]:=fun _ _ _ _=>by kernel_rfl
theorem qqw:iG [true,false,false,true]:=fun _ _ _ _=>by kernel_rfl
theorem qur:oG [false,true,true]:=fun _ _ _ _=>by kernel_rfl
theorem qus:nG [false,true,true]:=fun _ _ _ _=>by kernel_rfl
theorem qut:iG [false,true,true]:=fun _ _ _ _=>by kernel_rfl
theorem quu:oG [false,true,false]:=fun _ _ _ _=>by kernel_rfl
theorem quv:nG [false,true,false]:=fun _ _ _ _=>by kernel_rfl
theorem quw:iG [false,true,false]:=fun _ _ _ _=>by kernel_rfl
theorem qxe:oG [true,false]:=fun _ _ _ _=>by kernel_rfl
theorem qxf:nG [true,false]:=fun _ _ _ _=>by kernel_rfl
theorem qxg:iG [true,false]:=fun _ _ _ _=>by kernel_rfl
theorem qle:oG [false,true,true,true,true]:=fun _ _ _ _=>by kernel_rfl
theorem qlf:nG [false,true,true,true,true]:=fun _ _ _ _=>by kernel_rfl
theorem qlg:iG [false,true,true,true,true]:=fun _ _ _ _=>by kernel_rfl
theorem qlh:oG [true,false,false,true,true]:=fun _ _ _ _=>by kernel_rfl
theorem qli:nG [true,false,false,true,true]:=fun _ _ _ _=>by kernel_rfl
theorem qlj:iG [true,false,false,true,true]:=fun _ _ _ _=>by kernel_rfl
theorem qlk:oG [false,false,true,false,true]:=fun _ _ _ _=>by kernel_rfl
theorem qll:nG [false,false,true,false,true]:=fun _ _ _ _=>by kernel_rfl
theorem qlm:iG [false,false,true,false,true]:=fun _ _ _ _=>by kernel_rfl
theorem qln:oG [true,true,false,false,false]:=fun _ _ _ _=>by kernel_rfl
theorem qlo:nG [true,true,false,false,false]:=fun _ _ _ _=>by kernel_rfl
theorem qlp:iG [true,true,false,false,false]:=fun _ _ _ _=>by kernel_rfl
theorem qqx:oG [false,true,true,false]:=fun _ _ _ _=>by kernel_rfl
theorem qqy:nG [false,true,true,false]:=fun _ _ _ _=>by kernel_rfl
theorem qqz:iG [false,true,true,false]:=fun _ _ _ _=>by kernel_rfl
theorem qq0:oG [true,false,false,false]:=fun _ _ _ _=>by kernel_rfl
theorem qq1:nG [true,false,false,false]:=fun _ _ _ _=>by kernel_rfl
theorem qq2:iG [true,false,false,false]:=fun _ _ _ _=>by kernel_rfl
theorem qxh:oG [true,true]:=fun _ _ _ _=>by kernel_rfl
theorem qxi:nG [true,true]:=fun _ _ _ _=>by kernel_rfl
theorem qxj:iG [true,true]:=fun _ _ _ _=>by kernel_rfl
theorem qxk:oG [false,true]:=fun _ _ _ _=>by kernel_rfl
theorem qxl:nG [false,true]:=fun _ _ _ _=>by kernel_rfl
theorem qxm:iG [false,true]:=fun _ _ _ _=>by kernel_rfl
end Go.Proofs.YtdbklpgagdbpiaaDoor.Ev

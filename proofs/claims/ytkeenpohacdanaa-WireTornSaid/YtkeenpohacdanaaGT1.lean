/- Graphs of functions built of pieces: what the code tells of some of them, by runs. -/
import Derived.Test.YtkeenpohacdanaaGb
namespace Go.Proofs.Ytkeenpohacdanaa.Ev
open Go Go.RowKit Go.Proofs.Ytkeenpohacdanaa.Ms
set_option maxRecDepth 100000
theorem qk4:oG [true,true,true,true,true]:=fun _ _ _ _=>by kernel_rfl
theorem qk5:nG [true,true,true,true,true]:=fun _ _ _ _=>by kernel_rfl
theorem qk6:iG [true,true,true,true,true]:=fun _ _ _ _=>by kernel_rfl
theorem qk7:oG [true,true,true,false,false]:=fun _ _ _ _=>by kernel_rfl
theorem qk8:nG [true,true,true,false,false]:=fun _ _ _ _=>by kernel_rfl
theorem qk9:iG [true,true,true,false,false]:=fun _ _ _ _=>by kernel_rfl
theorem qla:oG [true,false,false,false,true]:=fun _ _ _ _=>by kernel_rfl
theorem qlb:nG [true,false,false,false,true]:=fun _ _ _ _=>by kernel_rfl
theorem qlc:iG [true,false,false,false,true]:=fun _ _ _ _=>by kernel_rfl
theorem qld:oG [false,false,false,false,true]:=fun _ _ _ _=>by kernel_rfl
theorem qle:nG [false,false,false,false,true]:=fun _ _ _ _=>by kernel_rfl
theorem qlf:iG [false,false,false,false,true]:=fun _ _ _ _=>by kernel_rfl
theorem qqq:oG [true,false,false,true]:=fun _ _ _ _=>by kernel_rfl
theorem qqr:nG [true,false,false,true]:=fun _ _ _ _=>by kernel_rfl
theorem qqs:iG [true,false,false,true]:=fun _ _ _ _=>by kernel_rfl
theorem quu:oG [false,true,true]:=fun _ _ _ _=>by kernel_rfl
theorem quv:nG [false,true,true]:=fun _ _ _ _=>by kernel_rfl
theorem quw:iG [false,true,true]:=fun _ _ _ _=>by kernel_rfl
theorem qux:oG [false,true,false]:=fun _ _ _ _=>by kernel_rfl
theorem quy:nG [false,true,false]:=fun _ _ _ _=>by kernel_rfl
theorem quz:iG [false,true,false]:=fun _ _ _ _=>by kernel_rfl
theorem qw9:oG [true,false]:=fun _ _ _ _=>by kernel_rfl
theorem qxa:nG [true,false]:=fun _ _ _ _=>by kernel_rfl
theorem qxb:iG [true,false]:=fun _ _ _ _=>by kernel_rfl
theorem qlg:oG [false,true,true,true,true]:=fun _ _ _ _=>by kernel_rfl
theorem qlh:nG [false,true,true,true,true]:=fun _ _ _ _=>by kernel_rfl
theorem qli:iG [false,true,true,true,true]:=fun _ _ _ _=>by kernel_rfl
theorem qlj:oG [true,false,false,true,true]:=fun _ _ _ _=>by kernel_rfl
theorem qlk:nG [true,false,false,true,true]:=fun _ _ _ _=>by kernel_rfl
theorem qll:iG [true,false,false,true,true]:=fun _ _ _ _=>by kernel_rfl
theorem qlm:oG [false,false,true,false,true]:=fun _ _ _ _=>by kernel_rfl
theorem qln:nG [false,false,true,false,true]:=fun _ _ _ _=>by kernel_rfl
theorem qlo:iG [false,false,true,false,true]:=fun _ _ _ _=>by kernel_rfl
theorem qlp:oG [true,true,false,false,false]:=fun _ _ _ _=>by kernel_rfl
theorem qlq:nG [true,true,false,false,false]:=fun _ _ _ _=>by kernel_rfl
theorem qlr:iG [true,true,false,false,false]:=fun _ _ _ _=>by kernel_rfl
theorem qqt:oG [false,true,true,false]:=fun _ _ _ _=>by kernel_rfl
theorem qqu:nG [false,true,true,false]:=fun _ _ _ _=>by kernel_rfl
theorem qqv:iG [false,true,true,false]:=fun _ _ _ _=>by kernel_rfl
theorem qqw:oG [true,false,false,false]:=fun _ _ _ _=>by kernel_rfl
theorem qqx:nG [true,false,false,false]:=fun _ _ _ _=>by kernel_rfl
theorem qqy:iG [true,false,false,false]:=fun _ _ _ _=>by kernel_rfl
theorem qxc:oG [true,true]:=fun _ _ _ _=>by kernel_rfl
theorem qxd:nG [true,true]:=fun _ _ _ _=>by kernel_rfl
theorem qxe:iG [true,true]:=fun _ _ _ _=>by kernel_rfl
theorem qxf:oG [false,true]:=fun _ _ _ _=>by kernel_rfl
theorem qxg:nG [false,true]:=fun _ _ _ _=>by kernel_rfl
theorem qxh:iG [false,true]:=fun _ _ _ _=>by kernel_rfl
end Go.Proofs.Ytkeenpohacdanaa.Ev

/- Graphs of functions built of pieces: what the code tells of some of them, by runs. -/
import Derived.Test.YtaljcpoopmedmaaGb
namespace Go.Proofs.Ytaljcpoopmedmaa.Ev
open Go Go.RowKit Go.Proofs.Ytaljcpoopmedmaa.Ms
set_option maxRecDepth 100000
theorem qiz:oG [true,false,true,true,true]:=fun _ _ _ _=>by kernel_rfl
theorem qi0:nG [true,false,true,true,true]:=fun _ _ _ _=>by kernel_rfl
theorem qi1:iG [true,false,true,true,true]:=fun _ _ _ _=>by kernel_rfl
theorem qi2:tG [true,false,true,true,true]:=fun _ _ _ _=>by kernel_rfl
theorem qi3:oG [true,false,true,false,true]:=fun _ _ _ _=>by kernel_rfl
theorem qi4:nG [true,false,true,false,true]:=fun _ _ _ _=>by kernel_rfl
theorem qi5:iG [true,false,true,false,true]:=fun _ _ _ _=>by kernel_rfl
theorem qi6:tG [true,false,true,false,true]:=fun _ _ _ _=>by kernel_rfl
theorem qi7:oG [false,false,true,true,false]:=fun _ _ _ _=>by kernel_rfl
theorem qi8:nG [false,false,true,true,false]:=fun _ _ _ _=>by kernel_rfl
theorem qi9:iG [false,false,true,true,false]:=fun _ _ _ _=>by kernel_rfl
theorem qja:tG [false,false,true,true,false]:=fun _ _ _ _=>by kernel_rfl
theorem qoj:oG [false,true,true,true]:=fun _ _ _ _=>by kernel_rfl
theorem qok:nG [false,true,true,true]:=fun _ _ _ _=>by kernel_rfl
theorem qol:iG [false,true,true,true]:=fun _ _ _ _=>by kernel_rfl
theorem qom:tG [false,true,true,true]:=fun _ _ _ _=>by kernel_rfl
theorem qjb:oG [false,true,false,false,false]:=fun _ _ _ _=>by kernel_rfl
theorem qjc:nG [false,true,false,false,false]:=fun _ _ _ _=>by kernel_rfl
theorem qjd:iG [false,true,false,false,false]:=fun _ _ _ _=>by kernel_rfl
theorem qje:tG [false,true,false,false,false]:=fun _ _ _ _=>by kernel_rfl
theorem qon:oG [false,false,true,false]:=fun _ _ _ _=>by kernel_rfl
theorem qoo:nG [false,false,true,false]:=fun _ _ _ _=>by kernel_rfl
theorem qop:iG [false,false,true,false]:=fun _ _ _ _=>by kernel_rfl
theorem qoq:tG [false,false,true,false]:=fun _ _ _ _=>by kernel_rfl
theorem qr6:oG [true,true,false]:=fun _ _ _ _=>by kernel_rfl
theorem qr7:nG [true,true,false]:=fun _ _ _ _=>by kernel_rfl
theorem qr8:iG [true,true,false]:=fun _ _ _ _=>by kernel_rfl
theorem qr9:tG [true,true,false]:=fun _ _ _ _=>by kernel_rfl
theorem qjf:oG [true,true,false,true,true]:=fun _ _ _ _=>by kernel_rfl
theorem qjg:nG [true,true,false,true,true]:=fun _ _ _ _=>by kernel_rfl
theorem qjh:iG [true,true,false,true,true]:=fun _ _ _ _=>by kernel_rfl
theorem qji:tG [true,true,false,true,true]:=fun _ _ _ _=>by kernel_rfl
theorem qjj:oG [true,false,true,true,false]:=fun _ _ _ _=>by kernel_rfl
theorem qjk:nG [true,false,true,true,false]:=fun _ _ _ _=>by kernel_rfl
theorem qjl:iG [true,false,true,true,false]:=fun _ _ _ _=>by kernel_rfl
theorem qjm:tG [true,false,true,true,false]:=fun _ _ _ _=>by kernel_rfl
theorem qjn:oG [false,true,false,false,true]:=fun _ _ _ _=>by kernel_rfl
theorem qjo:nG [false,true,false,false,true]:=fun _ _ _ _=>by kernel_rfl
theorem qjp:iG [false,true,false,false,true]:=fun _ _ _ _=>by kernel_rfl
theorem qjq:tG [false,true,false,false,true]:=fun _ _ _ _=>by kernel_rfl
theorem qor:oG [true,false,true,true]:=fun _ _ _ _=>by kernel_rfl
theorem qos:nG [true,false,true,true]:=fun _ _ _ _=>by kernel_rfl
theorem qot:iG [true,false,true,true]:=fun _ _ _ _=>by kernel_rfl
theorem qou:tG [true,false,true,true]:=fun _ _ _ _=>by kernel_rfl
theorem qjr:oG [true,false,false,false,false]:=fun _ _ _ _=>by kernel_rfl
theorem qjs:nG [true,false,false,false,false]:=fun _ _ _ _=>by kernel_rfl
theorem qjt:iG [true,false,false,false,false]:=fun _ _ _ _=>by kernel_rfl
theorem qju:tG [true,false,false,false,false]:=fun _ _ _ _=>by kernel_rfl
theorem qov:oG [false,true,false,false]:=fun _ _ _ _=>by kernel_rfl
theorem qow:nG [false,true,false,false]:=fun _ _ _ _=>by kernel_rfl
theorem qox:iG [false,true,false,false]:=fun _ _ _ _=>by kernel_rfl
theorem qoy:tG [false,true,false,false]:=fun _ _ _ _=>by kernel_rfl
theorem qjv:oG [false,false,false,false,false]:=fun _ _ _ _=>by kernel_rfl
theorem qjw:nG [false,false,false,false,false]:=fun _ _ _ _=>by kernel_rfl
theorem qjx:iG [false,false,false,false,false]:=fun _ _ _ _=>by kernel_rfl
theorem qjy:tG [false,false,false,false,false]:=fun _ _ _ _=>by kernel_rfl
theorem o_t:oG [true]:=fun _ _ _ _=>by kernel_rfl
theorem n_t:nG [true]:=fun _ _ _ _=>by kernel_rfl
theorem i_t:iG [true]:=fun _ _ _ _=>by kernel_rfl
theorem t_t:tG [true]:=fun _ _ _ _=>by kernel_rfl
end Go.Proofs.Ytaljcpoopmedmaa.Ev

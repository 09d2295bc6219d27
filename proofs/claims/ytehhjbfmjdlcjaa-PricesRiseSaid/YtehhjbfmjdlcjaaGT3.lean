/- Graphs of functions built of pieces: what the code tells of some of them, by runs. -/
import Derived.Test.YtehhjbfmjdlcjaaGb
namespace Go.Proofs.Ytehhjbfmjdlcjaa.Ev
open Go Go.RowKit Go.Proofs.Ytehhjbfmjdlcjaa.Ms
set_option maxRecDepth 100000
theorem qik:oG [true,false,true,true,true]:=fun _ _ _ _=>by kernel_rfl
theorem qil:nG [true,false,true,true,true]:=fun _ _ _ _=>by kernel_rfl
theorem qim:iG [true,false,true,true,true]:=fun _ _ _ _=>by kernel_rfl
theorem qin:tG [true,false,true,true,true]:=fun _ _ _ _=>by kernel_rfl
theorem qio:oG [true,false,true,false,true]:=fun _ _ _ _=>by kernel_rfl
theorem qip:nG [true,false,true,false,true]:=fun _ _ _ _=>by kernel_rfl
theorem qiq:iG [true,false,true,false,true]:=fun _ _ _ _=>by kernel_rfl
theorem qir:tG [true,false,true,false,true]:=fun _ _ _ _=>by kernel_rfl
theorem qis:oG [false,false,true,true,false]:=fun _ _ _ _=>by kernel_rfl
theorem qit:nG [false,false,true,true,false]:=fun _ _ _ _=>by kernel_rfl
theorem qiu:iG [false,false,true,true,false]:=fun _ _ _ _=>by kernel_rfl
theorem qiv:tG [false,false,true,true,false]:=fun _ _ _ _=>by kernel_rfl
theorem qn8:oG [false,true,true,true]:=fun _ _ _ _=>by kernel_rfl
theorem qn9:nG [false,true,true,true]:=fun _ _ _ _=>by kernel_rfl
theorem qoa:iG [false,true,true,true]:=fun _ _ _ _=>by kernel_rfl
theorem qob:tG [false,true,true,true]:=fun _ _ _ _=>by kernel_rfl
theorem qiw:oG [false,true,false,false,false]:=fun _ _ _ _=>by kernel_rfl
theorem qix:nG [false,true,false,false,false]:=fun _ _ _ _=>by kernel_rfl
theorem qiy:iG [false,true,false,false,false]:=fun _ _ _ _=>by kernel_rfl
theorem qiz:tG [false,true,false,false,false]:=fun _ _ _ _=>by kernel_rfl
theorem qoc:oG [false,false,true,false]:=fun _ _ _ _=>by kernel_rfl
theorem qod:nG [false,false,true,false]:=fun _ _ _ _=>by kernel_rfl
theorem qoe:iG [false,false,true,false]:=fun _ _ _ _=>by kernel_rfl
theorem qof:tG [false,false,true,false]:=fun _ _ _ _=>by kernel_rfl
theorem qr0:oG [true,true,false]:=fun _ _ _ _=>by kernel_rfl
theorem qr1:nG [true,true,false]:=fun _ _ _ _=>by kernel_rfl
theorem qr2:iG [true,true,false]:=fun _ _ _ _=>by kernel_rfl
theorem qr3:tG [true,true,false]:=fun _ _ _ _=>by kernel_rfl
theorem qi0:oG [true,true,false,true,true]:=fun _ _ _ _=>by kernel_rfl
theorem qi1:nG [true,true,false,true,true]:=fun _ _ _ _=>by kernel_rfl
theorem qi2:iG [true,true,false,true,true]:=fun _ _ _ _=>by kernel_rfl
theorem qi3:tG [true,true,false,true,true]:=fun _ _ _ _=>by kernel_rfl
theorem qi4:oG [true,false,true,true,false]:=fun _ _ _ _=>by kernel_rfl
theorem qi5:nG [true,false,true,true,false]:=fun _ _ _ _=>by kernel_rfl
theorem qi6:iG [true,false,true,true,false]:=fun _ _ _ _=>by kernel_rfl
theorem qi7:tG [true,false,true,true,false]:=fun _ _ _ _=>by kernel_rfl
theorem qi8:oG [false,true,false,false,true]:=fun _ _ _ _=>by kernel_rfl
theorem qi9:nG [false,true,false,false,true]:=fun _ _ _ _=>by kernel_rfl
theorem qja:iG [false,true,false,false,true]:=fun _ _ _ _=>by kernel_rfl
theorem qjb:tG [false,true,false,false,true]:=fun _ _ _ _=>by kernel_rfl
theorem qog:oG [true,false,true,true]:=fun _ _ _ _=>by kernel_rfl
theorem qoh:nG [true,false,true,true]:=fun _ _ _ _=>by kernel_rfl
theorem qoi:iG [true,false,true,true]:=fun _ _ _ _=>by kernel_rfl
theorem qoj:tG [true,false,true,true]:=fun _ _ _ _=>by kernel_rfl
theorem qjc:oG [true,false,false,false,false]:=fun _ _ _ _=>by kernel_rfl
theorem qjd:nG [true,false,false,false,false]:=fun _ _ _ _=>by kernel_rfl
theorem qje:iG [true,false,false,false,false]:=fun _ _ _ _=>by kernel_rfl
theorem qjf:tG [true,false,false,false,false]:=fun _ _ _ _=>by kernel_rfl
theorem qok:oG [false,true,false,false]:=fun _ _ _ _=>by kernel_rfl
theorem qol:nG [false,true,false,false]:=fun _ _ _ _=>by kernel_rfl
theorem qom:iG [false,true,false,false]:=fun _ _ _ _=>by kernel_rfl
theorem qon:tG [false,true,false,false]:=fun _ _ _ _=>by kernel_rfl
theorem qjg:oG [false,false,false,false,false]:=fun _ _ _ _=>by kernel_rfl
theorem qjh:nG [false,false,false,false,false]:=fun _ _ _ _=>by kernel_rfl
theorem qji:iG [false,false,false,false,false]:=fun _ _ _ _=>by kernel_rfl
theorem qjj:tG [false,false,false,false,false]:=fun _ _ _ _=>by kernel_rfl
theorem o_t:oG [true]:=fun _ _ _ _=>by kernel_rfl
theorem n_t:nG [true]:=fun _ _ _ _=>by kernel_rfl
theorem i_t:iG [true]:=fun _ _ _ _=>by kernel_rfl
theorem t_t:tG [true]:=fun _ _ _ _=>by kernel_rfl
end Go.Proofs.Ytehhjbfmjdlcjaa.Ev

/- Graphs of functions built of pieces: what the code tells of some of them, by runs. -/
import Derived.Test.YtaljcpoopmedmaaGb
namespace Go.Proofs.Ytaljcpoopmedmaa.Ev
open Go Go.RowKit Go.Proofs.Ytaljcpoopmedmaa.Ms
set_option maxRecDepth 100000
theorem qhs:oG [true,false,true,true,true]:=fun _ _ _ _=>by kernel_rfl
theorem qht:nG [true,false,true,true,true]:=fun _ _ _ _=>by kernel_rfl
theorem qhu:iG [true,false,true,true,true]:=fun _ _ _ _=>by kernel_rfl
theorem qhv:tG [true,false,true,true,true]:=fun _ _ _ _=>by kernel_rfl
theorem qhw:oG [true,false,true,false,true]:=fun _ _ _ _=>by kernel_rfl
theorem qhx:nG [true,false,true,false,true]:=fun _ _ _ _=>by kernel_rfl
theorem qhy:iG [true,false,true,false,true]:=fun _ _ _ _=>by kernel_rfl
theorem qhz:tG [true,false,true,false,true]:=fun _ _ _ _=>by kernel_rfl
theorem qh0:oG [false,false,true,true,false]:=fun _ _ _ _=>by kernel_rfl
theorem qh1:nG [false,false,true,true,false]:=fun _ _ _ _=>by kernel_rfl
theorem qh2:iG [false,false,true,true,false]:=fun _ _ _ _=>by kernel_rfl
theorem qh3:tG [false,false,true,true,false]:=fun _ _ _ _=>by kernel_rfl
theorem qnl:oG [false,true,true,true]:=fun _ _ _ _=>by kernel_rfl
theorem qnm:nG [false,true,true,true]:=fun _ _ _ _=>by kernel_rfl
theorem qnn:iG [false,true,true,true]:=fun _ _ _ _=>by kernel_rfl
theorem qno:tG [false,true,true,true]:=fun _ _ _ _=>by kernel_rfl
theorem qh4:oG [false,true,false,false,false]:=fun _ _ _ _=>by kernel_rfl
theorem qh5:nG [false,true,false,false,false]:=fun _ _ _ _=>by kernel_rfl
theorem qh6:iG [false,true,false,false,false]:=fun _ _ _ _=>by kernel_rfl
theorem qh7:tG [false,true,false,false,false]:=fun _ _ _ _=>by kernel_rfl
theorem qnp:oG [false,false,true,false]:=fun _ _ _ _=>by kernel_rfl
theorem qnq:nG [false,false,true,false]:=fun _ _ _ _=>by kernel_rfl
theorem qnr:iG [false,false,true,false]:=fun _ _ _ _=>by kernel_rfl
theorem qns:tG [false,false,true,false]:=fun _ _ _ _=>by kernel_rfl
theorem qq4:oG [true,true,false]:=fun _ _ _ _=>by kernel_rfl
theorem qq5:nG [true,true,false]:=fun _ _ _ _=>by kernel_rfl
theorem qq6:iG [true,true,false]:=fun _ _ _ _=>by kernel_rfl
theorem qq7:tG [true,true,false]:=fun _ _ _ _=>by kernel_rfl
theorem qh8:oG [true,true,false,true,true]:=fun _ _ _ _=>by kernel_rfl
theorem qh9:nG [true,true,false,true,true]:=fun _ _ _ _=>by kernel_rfl
theorem qia:iG [true,true,false,true,true]:=fun _ _ _ _=>by kernel_rfl
theorem qib:tG [true,true,false,true,true]:=fun _ _ _ _=>by kernel_rfl
theorem qic:oG [true,false,true,true,false]:=fun _ _ _ _=>by kernel_rfl
theorem qid:nG [true,false,true,true,false]:=fun _ _ _ _=>by kernel_rfl
theorem qie:iG [true,false,true,true,false]:=fun _ _ _ _=>by kernel_rfl
theorem qif:tG [true,false,true,true,false]:=fun _ _ _ _=>by kernel_rfl
theorem qig:oG [false,true,false,false,true]:=fun _ _ _ _=>by kernel_rfl
theorem qih:nG [false,true,false,false,true]:=fun _ _ _ _=>by kernel_rfl
theorem qii:iG [false,true,false,false,true]:=fun _ _ _ _=>by kernel_rfl
theorem qij:tG [false,true,false,false,true]:=fun _ _ _ _=>by kernel_rfl
theorem qnt:oG [true,false,true,true]:=fun _ _ _ _=>by kernel_rfl
theorem qnu:nG [true,false,true,true]:=fun _ _ _ _=>by kernel_rfl
theorem qnv:iG [true,false,true,true]:=fun _ _ _ _=>by kernel_rfl
theorem qnw:tG [true,false,true,true]:=fun _ _ _ _=>by kernel_rfl
theorem qik:oG [true,false,false,false,false]:=fun _ _ _ _=>by kernel_rfl
theorem qil:nG [true,false,false,false,false]:=fun _ _ _ _=>by kernel_rfl
theorem qim:iG [true,false,false,false,false]:=fun _ _ _ _=>by kernel_rfl
theorem qin:tG [true,false,false,false,false]:=fun _ _ _ _=>by kernel_rfl
theorem qnx:oG [false,true,false,false]:=fun _ _ _ _=>by kernel_rfl
theorem qny:nG [false,true,false,false]:=fun _ _ _ _=>by kernel_rfl
theorem qnz:iG [false,true,false,false]:=fun _ _ _ _=>by kernel_rfl
theorem qn0:tG [false,true,false,false]:=fun _ _ _ _=>by kernel_rfl
theorem qio:oG [false,false,false,false,false]:=fun _ _ _ _=>by kernel_rfl
theorem qip:nG [false,false,false,false,false]:=fun _ _ _ _=>by kernel_rfl
theorem qiq:iG [false,false,false,false,false]:=fun _ _ _ _=>by kernel_rfl
theorem qir:tG [false,false,false,false,false]:=fun _ _ _ _=>by kernel_rfl
theorem o_t:oG [true]:=fun _ _ _ _=>by kernel_rfl
theorem n_t:nG [true]:=fun _ _ _ _=>by kernel_rfl
theorem i_t:iG [true]:=fun _ _ _ _=>by kernel_rfl
theorem t_t:tG [true]:=fun _ _ _ _=>by kernel_rfl
end Go.Proofs.Ytaljcpoopmedmaa.Ev

/- Graphs of functions built of pieces: what the code tells of some of them, by runs. -/
import Derived.Test.YtehhjbfmjdlcjaaGb
namespace Go.Proofs.Ytehhjbfmjdlcjaa.Ev
open Go Go.RowKit Go.Proofs.Ytehhjbfmjdlcjaa.Ms
set_option maxRecDepth 100000
theorem qnc:oG [true,false,true,true,true]:=fun _ _ _ _=>by kernel_rfl
theorem qnd:nG [true,false,true,true,true]:=fun _ _ _ _=>by kernel_rfl
theorem qne:iG [true,false,true,true,true]:=fun _ _ _ _=>by kernel_rfl
theorem qnf:tG [true,false,true,true,true]:=fun _ _ _ _=>by kernel_rfl
theorem qng:oG [true,false,true,false,true]:=fun _ _ _ _=>by kernel_rfl
theorem qnh:nG [true,false,true,false,true]:=fun _ _ _ _=>by kernel_rfl
theorem qni:iG [true,false,true,false,true]:=fun _ _ _ _=>by kernel_rfl
theorem qnj:tG [true,false,true,false,true]:=fun _ _ _ _=>by kernel_rfl
theorem qnk:oG [false,false,true,true,false]:=fun _ _ _ _=>by kernel_rfl
theorem qnl:nG [false,false,true,true,false]:=fun _ _ _ _=>by kernel_rfl
theorem qnm:iG [false,false,true,true,false]:=fun _ _ _ _=>by kernel_rfl
theorem qnn:tG [false,false,true,true,false]:=fun _ _ _ _=>by kernel_rfl
theorem qtg:oG [false,true,true,true]:=fun _ _ _ _=>by kernel_rfl
theorem qth:nG [false,true,true,true]:=fun _ _ _ _=>by kernel_rfl
theorem qti:iG [false,true,true,true]:=fun _ _ _ _=>by kernel_rfl
theorem qtj:tG [false,true,true,true]:=fun _ _ _ _=>by kernel_rfl
theorem qno:oG [false,true,false,false,false]:=fun _ _ _ _=>by kernel_rfl
theorem qnp:nG [false,true,false,false,false]:=fun _ _ _ _=>by kernel_rfl
theorem qnq:iG [false,true,false,false,false]:=fun _ _ _ _=>by kernel_rfl
theorem qnr:tG [false,true,false,false,false]:=fun _ _ _ _=>by kernel_rfl
theorem qtk:oG [false,false,true,false]:=fun _ _ _ _=>by kernel_rfl
theorem qtl:nG [false,false,true,false]:=fun _ _ _ _=>by kernel_rfl
theorem qtm:iG [false,false,true,false]:=fun _ _ _ _=>by kernel_rfl
theorem qtn:tG [false,false,true,false]:=fun _ _ _ _=>by kernel_rfl
theorem qxx:oG [true,true,false]:=fun _ _ _ _=>by kernel_rfl
theorem qxy:nG [true,true,false]:=fun _ _ _ _=>by kernel_rfl
theorem qxz:iG [true,true,false]:=fun _ _ _ _=>by kernel_rfl
theorem qx0:tG [true,true,false]:=fun _ _ _ _=>by kernel_rfl
theorem qns:oG [true,true,false,true,true]:=fun _ _ _ _=>by kernel_rfl
theorem qnt:nG [true,true,false,true,true]:=fun _ _ _ _=>by kernel_rfl
theorem qnu:iG [true,true,false,true,true]:=fun _ _ _ _=>by kernel_rfl
theorem qnv:tG [true,true,false,true,true]:=fun _ _ _ _=>by kernel_rfl
theorem qnw:oG [true,false,true,true,false]:=fun _ _ _ _=>by kernel_rfl
theorem qnx:nG [true,false,true,true,false]:=fun _ _ _ _=>by kernel_rfl
theorem qny:iG [true,false,true,true,false]:=fun _ _ _ _=>by kernel_rfl
theorem qnz:tG [true,false,true,true,false]:=fun _ _ _ _=>by kernel_rfl
theorem qn0:oG [false,true,false,false,true]:=fun _ _ _ _=>by kernel_rfl
theorem qn1:nG [false,true,false,false,true]:=fun _ _ _ _=>by kernel_rfl
theorem qn2:iG [false,true,false,false,true]:=fun _ _ _ _=>by kernel_rfl
theorem qn3:tG [false,true,false,false,true]:=fun _ _ _ _=>by kernel_rfl
theorem qto:oG [true,false,true,true]:=fun _ _ _ _=>by kernel_rfl
theorem qtp:nG [true,false,true,true]:=fun _ _ _ _=>by kernel_rfl
theorem qtq:iG [true,false,true,true]:=fun _ _ _ _=>by kernel_rfl
theorem qtr:tG [true,false,true,true]:=fun _ _ _ _=>by kernel_rfl
theorem qn4:oG [true,false,false,false,false]:=fun _ _ _ _=>by kernel_rfl
theorem qn5:nG [true,false,false,false,false]:=fun _ _ _ _=>by kernel_rfl
theorem qn6:iG [true,false,false,false,false]:=fun _ _ _ _=>by kernel_rfl
theorem qn7:tG [true,false,false,false,false]:=fun _ _ _ _=>by kernel_rfl
theorem qts:oG [false,true,false,false]:=fun _ _ _ _=>by kernel_rfl
theorem qtt:nG [false,true,false,false]:=fun _ _ _ _=>by kernel_rfl
theorem qtu:iG [false,true,false,false]:=fun _ _ _ _=>by kernel_rfl
theorem qtv:tG [false,true,false,false]:=fun _ _ _ _=>by kernel_rfl
theorem qn8:oG [false,false,false,false,false]:=fun _ _ _ _=>by kernel_rfl
theorem qn9:nG [false,false,false,false,false]:=fun _ _ _ _=>by kernel_rfl
theorem qoa:iG [false,false,false,false,false]:=fun _ _ _ _=>by kernel_rfl
theorem qob:tG [false,false,false,false,false]:=fun _ _ _ _=>by kernel_rfl
theorem o_t:oG [true]:=fun _ _ _ _=>by kernel_rfl
theorem n_t:nG [true]:=fun _ _ _ _=>by kernel_rfl
theorem i_t:iG [true]:=fun _ _ _ _=>by kernel_rfl
theorem t_t:tG [true]:=fun _ _ _ _=>by kernel_rfl
end Go.Proofs.Ytehhjbfmjdlcjaa.Ev

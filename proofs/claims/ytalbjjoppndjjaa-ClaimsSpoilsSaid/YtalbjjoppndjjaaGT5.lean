/- Graphs of functions built of pieces: what the code tells of some of them, by runs. -/
import Derived.Test.YtalbjjoppndjjaaGb
namespace Go.Proofs.Ytalbjjoppndjjaa.Ev
open Go Go.RowKit Go.Proofs.Ytalbjjoppndjjaa.Ms
set_option maxRecDepth 100000
theorem qjt:oG [true,true,true,false,true]:=fun _ _ _ _=>by kernel_rfl
theorem qju:nG [true,true,true,false,true]:=fun _ _ _ _=>by kernel_rfl
theorem qjv:iG [true,true,true,false,true]:=fun _ _ _ _=>by kernel_rfl
theorem qjw:oG [true,true,false,false,true]:=fun _ _ _ _=>by kernel_rfl
theorem qjx:nG [true,true,false,false,true]:=fun _ _ _ _=>by kernel_rfl
theorem qjy:iG [true,true,false,false,true]:=fun _ _ _ _=>by kernel_rfl
theorem qjz:oG [false,true,false,true,false]:=fun _ _ _ _=>by kernel_rfl
theorem qj0:nG [false,true,false,true,false]:=fun _ _ _ _=>by kernel_rfl
theorem qj1:iG [false,true,false,true,false]:=fun _ _ _ _=>by kernel_rfl
theorem qom:oG [true,true,false,true]:=fun _ _ _ _=>by kernel_rfl
theorem qon:nG [true,true,false,true]:=fun _ _ _ _=>by kernel_rfl
theorem qoo:iG [true,true,false,true]:=fun _ _ _ _=>by kernel_rfl
theorem qop:oG [false,false,true,true]:=fun _ _ _ _=>by kernel_rfl
theorem qoq:nG [false,false,true,true]:=fun _ _ _ _=>by kernel_rfl
theorem qor:iG [false,false,true,true]:=fun _ _ _ _=>by kernel_rfl
theorem qsj:oG [true,true,true]:=fun _ _ _ _=>by kernel_rfl
theorem qsk:nG [true,true,true]:=fun _ _ _ _=>by kernel_rfl
theorem qsl:iG [true,true,true]:=fun _ _ _ _=>by kernel_rfl
theorem qsm:oG [true,false,false]:=fun _ _ _ _=>by kernel_rfl
theorem qsn:nG [true,false,false]:=fun _ _ _ _=>by kernel_rfl
theorem qso:iG [true,false,false]:=fun _ _ _ _=>by kernel_rfl
theorem o_f:oG [false]:=fun _ _ _ _=>by kernel_rfl
theorem n_f:nG [false]:=fun _ _ _ _=>by kernel_rfl
theorem i_f:iG [false]:=fun _ _ _ _=>by kernel_rfl
theorem o_:oG []:=fun _ _ _ _=>by kernel_rfl
theorem n_:nG []:=fun _ _ _ _=>by kernel_rfl
theorem i_:iG []:=fun _ _ _ _=>by kernel_rfl
theorem qj2:oG [true,true,true,true,false]:=fun _ _ _ _=>by kernel_rfl
theorem qj3:nG [true,true,true,true,false]:=fun _ _ _ _=>by kernel_rfl
theorem qj4:iG [true,true,true,true,false]:=fun _ _ _ _=>by kernel_rfl
theorem qj5:oG [true,true,false,true,false]:=fun _ _ _ _=>by kernel_rfl
theorem qj6:nG [true,true,false,true,false]:=fun _ _ _ _=>by kernel_rfl
theorem qj7:iG [true,true,false,true,false]:=fun _ _ _ _=>by kernel_rfl
theorem qj8:oG [false,true,true,false,false]:=fun _ _ _ _=>by kernel_rfl
theorem qj9:nG [false,true,true,false,false]:=fun _ _ _ _=>by kernel_rfl
theorem qka:iG [false,true,true,false,false]:=fun _ _ _ _=>by kernel_rfl
theorem qos:oG [true,true,true,false]:=fun _ _ _ _=>by kernel_rfl
theorem qot:nG [true,true,true,false]:=fun _ _ _ _=>by kernel_rfl
theorem qou:iG [true,true,true,false]:=fun _ _ _ _=>by kernel_rfl
theorem qov:oG [false,true,false,true]:=fun _ _ _ _=>by kernel_rfl
theorem qow:nG [false,true,false,true]:=fun _ _ _ _=>by kernel_rfl
theorem qox:iG [false,true,false,true]:=fun _ _ _ _=>by kernel_rfl
theorem qoy:oG [false,false,false,true]:=fun _ _ _ _=>by kernel_rfl
theorem qoz:nG [false,false,false,true]:=fun _ _ _ _=>by kernel_rfl
theorem qo0:iG [false,false,false,true]:=fun _ _ _ _=>by kernel_rfl
theorem qsp:oG [true,false,true]:=fun _ _ _ _=>by kernel_rfl
theorem qsq:nG [true,false,true]:=fun _ _ _ _=>by kernel_rfl
theorem qsr:iG [true,false,true]:=fun _ _ _ _=>by kernel_rfl
end Go.Proofs.Ytalbjjoppndjjaa.Ev

/- Graphs of functions built of pieces: what the code tells of some of them, by runs. -/
import Derived.Test.YthbghmhjgdonmaaGb
namespace Go.Proofs.Ythbghmhjgdonmaa.Ev
open Go Go.RowKit Go.Proofs.Ythbghmhjgdonmaa.Ms
set_option maxRecDepth 100000
theorem qkw:oG [true,true,true,false,true]:=fun _ _ _ _=>by kernel_rfl
theorem qkx:nG [true,true,true,false,true]:=fun _ _ _ _=>by kernel_rfl
theorem qky:iG [true,true,true,false,true]:=fun _ _ _ _=>by kernel_rfl
theorem qkz:oG [true,true,false,false,true]:=fun _ _ _ _=>by kernel_rfl
theorem qk0:nG [true,true,false,false,true]:=fun _ _ _ _=>by kernel_rfl
theorem qk1:iG [true,true,false,false,true]:=fun _ _ _ _=>by kernel_rfl
theorem qk2:oG [false,true,false,true,false]:=fun _ _ _ _=>by kernel_rfl
theorem qk3:nG [false,true,false,true,false]:=fun _ _ _ _=>by kernel_rfl
theorem qk4:iG [false,true,false,true,false]:=fun _ _ _ _=>by kernel_rfl
theorem qpq:oG [true,true,false,true]:=fun _ _ _ _=>by kernel_rfl
theorem qpr:nG [true,true,false,true]:=fun _ _ _ _=>by kernel_rfl
theorem qps:iG [true,true,false,true]:=fun _ _ _ _=>by kernel_rfl
theorem qpt:oG [false,false,true,true]:=fun _ _ _ _=>by kernel_rfl
theorem qpu:nG [false,false,true,true]:=fun _ _ _ _=>by kernel_rfl
theorem qpv:iG [false,false,true,true]:=fun _ _ _ _=>by kernel_rfl
theorem qtk:oG [true,true,true]:=fun _ _ _ _=>by kernel_rfl
theorem qtl:nG [true,true,true]:=fun _ _ _ _=>by kernel_rfl
theorem qtm:iG [true,true,true]:=fun _ _ _ _=>by kernel_rfl
theorem qtn:oG [true,false,false]:=fun _ _ _ _=>by kernel_rfl
theorem qto:nG [true,false,false]:=fun _ _ _ _=>by kernel_rfl
theorem qtp:iG [true,false,false]:=fun _ _ _ _=>by kernel_rfl
theorem o_f:oG [false]:=fun _ _ _ _=>by kernel_rfl
theorem n_f:nG [false]:=fun _ _ _ _=>by kernel_rfl
theorem i_f:iG [false]:=fun _ _ _ _=>by kernel_rfl
theorem o_:oG []:=fun _ _ _ _=>by kernel_rfl
theorem n_:nG []:=fun _ _ _ _=>by kernel_rfl
theorem i_:iG []:=fun _ _ _ _=>by kernel_rfl
theorem qk5:oG [true,true,true,true,false]:=fun _ _ _ _=>by kernel_rfl
theorem qk6:nG [true,true,true,true,false]:=fun _ _ _ _=>by kernel_rfl
theorem qk7:iG [true,true,true,true,false]:=fun _ _ _ _=>by kernel_rfl
theorem qk8:oG [true,true,false,true,false]:=fun _ _ _ _=>by kernel_rfl
theorem qk9:nG [true,true,false,true,false]:=fun _ _ _ _=>by kernel_rfl
theorem qla:iG [true,true,false,true,false]:=fun _ _ _ _=>by kernel_rfl
theorem qlb:oG [false,true,true,false,false]:=fun _ _ _ _=>by kernel_rfl
theorem qlc:nG [false,true,true,false,false]:=fun _ _ _ _=>by kernel_rfl
theorem qld:iG [false,true,true,false,false]:=fun _ _ _ _=>by kernel_rfl
theorem qpw:oG [true,true,true,false]:=fun _ _ _ _=>by kernel_rfl
theorem qpx:nG [true,true,true,false]:=fun _ _ _ _=>by kernel_rfl
theorem qpy:iG [true,true,true,false]:=fun _ _ _ _=>by kernel_rfl
theorem qpz:oG [false,true,false,true]:=fun _ _ _ _=>by kernel_rfl
theorem qp0:nG [false,true,false,true]:=fun _ _ _ _=>by kernel_rfl
theorem qp1:iG [false,true,false,true]:=fun _ _ _ _=>by kernel_rfl
theorem qp2:oG [false,false,false,true]:=fun _ _ _ _=>by kernel_rfl
theorem qp3:nG [false,false,false,true]:=fun _ _ _ _=>by kernel_rfl
theorem qp4:iG [false,false,false,true]:=fun _ _ _ _=>by kernel_rfl
theorem qtq:oG [true,false,true]:=fun _ _ _ _=>by kernel_rfl
theorem qtr:nG [true,false,true]:=fun _ _ _ _=>by kernel_rfl
theorem qts:iG [true,false,true]:=fun _ _ _ _=>by kernel_rfl
end Go.Proofs.Ythbghmhjgdonmaa.Ev

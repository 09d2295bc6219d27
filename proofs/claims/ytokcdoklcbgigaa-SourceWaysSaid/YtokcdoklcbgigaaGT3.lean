/- Graphs of functions built of pieces: what the code tells of some of them, by runs. -/
import Derived.Test.YtokcdoklcbgigaaGb
namespace Go.Proofs.Ytokcdoklcbgigaa.Ev
open Go Go.RowKit Go.Proofs.Ytokcdoklcbgigaa.Ms
set_option maxRecDepth 100000
theorem qkl:oG [true,false,true,true,true]:=fun _ _ _ _=>by kernel_rfl
theorem qkm:nG [true,false,true,true,true]:=fun _ _ _ _=>by kernel_rfl
theorem qkn:iG [true,false,true,true,true]:=fun _ _ _ _=>by kernel_rfl
theorem qko:oG [true,false,true,false,true]:=fun _ _ _ _=>by kernel_rfl
theorem qkp:nG [true,false,true,false,true]:=fun _ _ _ _=>by kernel_rfl
theorem qkq:iG [true,false,true,false,true]:=fun _ _ _ _=>by kernel_rfl
theorem qkr:oG [false,false,true,true,false]:=fun _ _ _ _=>by kernel_rfl
theorem qks:nG [false,false,true,true,false]:=fun _ _ _ _=>by kernel_rfl
theorem qkt:iG [false,false,true,true,false]:=fun _ _ _ _=>by kernel_rfl
theorem qpo:oG [false,true,true,true]:=fun _ _ _ _=>by kernel_rfl
theorem qpp:nG [false,true,true,true]:=fun _ _ _ _=>by kernel_rfl
theorem qpq:iG [false,true,true,true]:=fun _ _ _ _=>by kernel_rfl
theorem qku:oG [false,true,false,false,false]:=fun _ _ _ _=>by kernel_rfl
theorem qkv:nG [false,true,false,false,false]:=fun _ _ _ _=>by kernel_rfl
theorem qkw:iG [false,true,false,false,false]:=fun _ _ _ _=>by kernel_rfl
theorem qpr:oG [false,false,true,false]:=fun _ _ _ _=>by kernel_rfl
theorem qps:nG [false,false,true,false]:=fun _ _ _ _=>by kernel_rfl
theorem qpt:iG [false,false,true,false]:=fun _ _ _ _=>by kernel_rfl
theorem qs0:oG [true,true,false]:=fun _ _ _ _=>by kernel_rfl
theorem qs1:nG [true,true,false]:=fun _ _ _ _=>by kernel_rfl
theorem qs2:iG [true,true,false]:=fun _ _ _ _=>by kernel_rfl
theorem qkx:oG [true,true,false,true,true]:=fun _ _ _ _=>by kernel_rfl
theorem qky:nG [true,true,false,true,true]:=fun _ _ _ _=>by kernel_rfl
theorem qkz:iG [true,true,false,true,true]:=fun _ _ _ _=>by kernel_rfl
theorem qk0:oG [true,false,true,true,false]:=fun _ _ _ _=>by kernel_rfl
theorem qk1:nG [true,false,true,true,false]:=fun _ _ _ _=>by kernel_rfl
theorem qk2:iG [true,false,true,true,false]:=fun _ _ _ _=>by kernel_rfl
theorem qk3:oG [false,true,false,false,true]:=fun _ _ _ _=>by kernel_rfl
theorem qk4:nG [false,true,false,false,true]:=fun _ _ _ _=>by kernel_rfl
theorem qk5:iG [false,true,false,false,true]:=fun _ _ _ _=>by kernel_rfl
theorem qpu:oG [true,false,true,true]:=fun _ _ _ _=>by kernel_rfl
theorem qpv:nG [true,false,true,true]:=fun _ _ _ _=>by kernel_rfl
theorem qpw:iG [true,false,true,true]:=fun _ _ _ _=>by kernel_rfl
theorem qk6:oG [true,false,false,false,false]:=fun _ _ _ _=>by kernel_rfl
theorem qk7:nG [true,false,false,false,false]:=fun _ _ _ _=>by kernel_rfl
theorem qk8:iG [true,false,false,false,false]:=fun _ _ _ _=>by kernel_rfl
theorem qpx:oG [false,true,false,false]:=fun _ _ _ _=>by kernel_rfl
theorem qpy:nG [false,true,false,false]:=fun _ _ _ _=>by kernel_rfl
theorem qpz:iG [false,true,false,false]:=fun _ _ _ _=>by kernel_rfl
theorem qk9:oG [false,false,false,false,false]:=fun _ _ _ _=>by kernel_rfl
theorem qla:nG [false,false,false,false,false]:=fun _ _ _ _=>by kernel_rfl
theorem qlb:iG [false,false,false,false,false]:=fun _ _ _ _=>by kernel_rfl
theorem o_t:oG [true]:=fun _ _ _ _=>by kernel_rfl
theorem n_t:nG [true]:=fun _ _ _ _=>by kernel_rfl
theorem i_t:iG [true]:=fun _ _ _ _=>by kernel_rfl
end Go.Proofs.Ytokcdoklcbgigaa.Ev

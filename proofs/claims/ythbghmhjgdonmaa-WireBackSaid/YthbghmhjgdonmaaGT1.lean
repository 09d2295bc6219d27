/- Graphs of functions built of pieces: what the code tells of some of them, by runs. -/
import Derived.Test.YthbghmhjgdonmaaGb
namespace Go.Proofs.Ythbghmhjgdonmaa.Ev
open Go Go.RowKit Go.Proofs.Ythbghmhjgdonmaa.Ms
set_option maxRecDepth 100000
theorem qjh:oG [true,true,true,true,true]:=fun _ _ _ _=>by kernel_rfl
theorem qji:nG [true,true,true,true,true]:=fun _ _ _ _=>by kernel_rfl
theorem qjj:iG [true,true,true,true,true]:=fun _ _ _ _=>by kernel_rfl
theorem qjk:oG [true,true,true,false,false]:=fun _ _ _ _=>by kernel_rfl
theorem qjl:nG [true,true,true,false,false]:=fun _ _ _ _=>by kernel_rfl
theorem qjm:iG [true,true,true,false,false]:=fun _ _ _ _=>by kernel_rfl
theorem qjn:oG [true,false,false,false,true]:=fun _ _ _ _=>by kernel_rfl
theorem qjo:nG [true,false,false,false,true]:=fun _ _ _ _=>by kernel_rfl
theorem qjp:iG [true,false,false,false,true]:=fun _ _ _ _=>by kernel_rfl
theorem qjq:oG [false,false,false,false,true]:=fun _ _ _ _=>by kernel_rfl
theorem qjr:nG [false,false,false,false,true]:=fun _ _ _ _=>by kernel_rfl
theorem qjs:iG [false,false,false,false,true]:=fun _ _ _ _=>by kernel_rfl
theorem qo5:oG [true,false,false,true]:=fun _ _ _ _=>by kernel_rfl
theorem qo6:nG [true,false,false,true]:=fun _ _ _ _=>by kernel_rfl
theorem qo7:iG [true,false,false,true]:=fun _ _ _ _=>by kernel_rfl
theorem qtb:oG [false,true,true]:=fun _ _ _ _=>by kernel_rfl
theorem qtc:nG [false,true,true]:=fun _ _ _ _=>by kernel_rfl
theorem qtd:iG [false,true,true]:=fun _ _ _ _=>by kernel_rfl
theorem qte:oG [false,true,false]:=fun _ _ _ _=>by kernel_rfl
theorem qtf:nG [false,true,false]:=fun _ _ _ _=>by kernel_rfl
theorem qtg:iG [false,true,false]:=fun _ _ _ _=>by kernel_rfl
theorem qvu:oG [true,false]:=fun _ _ _ _=>by kernel_rfl
theorem qvv:nG [true,false]:=fun _ _ _ _=>by kernel_rfl
theorem qvw:iG [true,false]:=fun _ _ _ _=>by kernel_rfl
theorem qjt:oG [false,true,true,true,true]:=fun _ _ _ _=>by kernel_rfl
theorem qju:nG [false,true,true,true,true]:=fun _ _ _ _=>by kernel_rfl
theorem qjv:iG [false,true,true,true,true]:=fun _ _ _ _=>by kernel_rfl
theorem qjw:oG [true,false,false,true,true]:=fun _ _ _ _=>by kernel_rfl
theorem qjx:nG [true,false,false,true,true]:=fun _ _ _ _=>by kernel_rfl
theorem qjy:iG [true,false,false,true,true]:=fun _ _ _ _=>by kernel_rfl
theorem qjz:oG [false,false,true,false,true]:=fun _ _ _ _=>by kernel_rfl
theorem qj0:nG [false,false,true,false,true]:=fun _ _ _ _=>by kernel_rfl
theorem qj1:iG [false,false,true,false,true]:=fun _ _ _ _=>by kernel_rfl
theorem qj2:oG [true,true,false,false,false]:=fun _ _ _ _=>by kernel_rfl
theorem qj3:nG [true,true,false,false,false]:=fun _ _ _ _=>by kernel_rfl
theorem qj4:iG [true,true,false,false,false]:=fun _ _ _ _=>by kernel_rfl
theorem qo8:oG [false,true,true,false]:=fun _ _ _ _=>by kernel_rfl
theorem qo9:nG [false,true,true,false]:=fun _ _ _ _=>by kernel_rfl
theorem qpa:iG [false,true,true,false]:=fun _ _ _ _=>by kernel_rfl
theorem qpb:oG [true,false,false,false]:=fun _ _ _ _=>by kernel_rfl
theorem qpc:nG [true,false,false,false]:=fun _ _ _ _=>by kernel_rfl
theorem qpd:iG [true,false,false,false]:=fun _ _ _ _=>by kernel_rfl
theorem qvx:oG [true,true]:=fun _ _ _ _=>by kernel_rfl
theorem qvy:nG [true,true]:=fun _ _ _ _=>by kernel_rfl
theorem qvz:iG [true,true]:=fun _ _ _ _=>by kernel_rfl
theorem qv0:oG [false,true]:=fun _ _ _ _=>by kernel_rfl
theorem qv1:nG [false,true]:=fun _ _ _ _=>by kernel_rfl
theorem qv2:iG [false,true]:=fun _ _ _ _=>by kernel_rfl
end Go.Proofs.Ythbghmhjgdonmaa.Ev

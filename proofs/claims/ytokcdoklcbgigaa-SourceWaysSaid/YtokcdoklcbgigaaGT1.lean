/- Graphs of functions built of pieces: what the code tells of some of them, by runs. -/
import Derived.Test.YtokcdoklcbgigaaGb
namespace Go.Proofs.Ytokcdoklcbgigaa.Ev
open Go Go.RowKit Go.Proofs.Ytokcdoklcbgigaa.Ms
set_option maxRecDepth 100000
theorem qjx:oG [true,true,true,true,true]:=fun _ _ _ _=>by kernel_rfl
theorem qjy:nG [true,true,true,true,true]:=fun _ _ _ _=>by kernel_rfl
theorem qjz:iG [true,true,true,true,true]:=fun _ _ _ _=>by kernel_rfl
theorem qj0:oG [true,true,true,false,false]:=fun _ _ _ _=>by kernel_rfl
theorem qj1:nG [true,true,true,false,false]:=fun _ _ _ _=>by kernel_rfl
theorem qj2:iG [true,true,true,false,false]:=fun _ _ _ _=>by kernel_rfl
theorem qj3:oG [true,false,false,false,true]:=fun _ _ _ _=>by kernel_rfl
theorem qj4:nG [true,false,false,false,true]:=fun _ _ _ _=>by kernel_rfl
theorem qj5:iG [true,false,false,false,true]:=fun _ _ _ _=>by kernel_rfl
theorem qj6:oG [false,false,false,false,true]:=fun _ _ _ _=>by kernel_rfl
theorem qj7:nG [false,false,false,false,true]:=fun _ _ _ _=>by kernel_rfl
theorem qj8:iG [false,false,false,false,true]:=fun _ _ _ _=>by kernel_rfl
theorem qpf:oG [true,false,false,true]:=fun _ _ _ _=>by kernel_rfl
theorem qpg:nG [true,false,false,true]:=fun _ _ _ _=>by kernel_rfl
theorem qph:iG [true,false,false,true]:=fun _ _ _ _=>by kernel_rfl
theorem qsu:oG [false,true,true]:=fun _ _ _ _=>by kernel_rfl
theorem qsv:nG [false,true,true]:=fun _ _ _ _=>by kernel_rfl
theorem qsw:iG [false,true,true]:=fun _ _ _ _=>by kernel_rfl
theorem qsx:oG [false,true,false]:=fun _ _ _ _=>by kernel_rfl
theorem qsy:nG [false,true,false]:=fun _ _ _ _=>by kernel_rfl
theorem qsz:iG [false,true,false]:=fun _ _ _ _=>by kernel_rfl
theorem qu5:oG [true,false]:=fun _ _ _ _=>by kernel_rfl
theorem qu6:nG [true,false]:=fun _ _ _ _=>by kernel_rfl
theorem qu7:iG [true,false]:=fun _ _ _ _=>by kernel_rfl
theorem qj9:oG [false,true,true,true,true]:=fun _ _ _ _=>by kernel_rfl
theorem qka:nG [false,true,true,true,true]:=fun _ _ _ _=>by kernel_rfl
theorem qkb:iG [false,true,true,true,true]:=fun _ _ _ _=>by kernel_rfl
theorem qkc:oG [true,false,false,true,true]:=fun _ _ _ _=>by kernel_rfl
theorem qkd:nG [true,false,false,true,true]:=fun _ _ _ _=>by kernel_rfl
theorem qke:iG [true,false,false,true,true]:=fun _ _ _ _=>by kernel_rfl
theorem qkf:oG [false,false,true,false,true]:=fun _ _ _ _=>by kernel_rfl
theorem qkg:nG [false,false,true,false,true]:=fun _ _ _ _=>by kernel_rfl
theorem qkh:iG [false,false,true,false,true]:=fun _ _ _ _=>by kernel_rfl
theorem qki:oG [true,true,false,false,false]:=fun _ _ _ _=>by kernel_rfl
theorem qkj:nG [true,true,false,false,false]:=fun _ _ _ _=>by kernel_rfl
theorem qkk:iG [true,true,false,false,false]:=fun _ _ _ _=>by kernel_rfl
theorem qpi:oG [false,true,true,false]:=fun _ _ _ _=>by kernel_rfl
theorem qpj:nG [false,true,true,false]:=fun _ _ _ _=>by kernel_rfl
theorem qpk:iG [false,true,true,false]:=fun _ _ _ _=>by kernel_rfl
theorem qpl:oG [true,false,false,false]:=fun _ _ _ _=>by kernel_rfl
theorem qpm:nG [true,false,false,false]:=fun _ _ _ _=>by kernel_rfl
theorem qpn:iG [true,false,false,false]:=fun _ _ _ _=>by kernel_rfl
theorem qu8:oG [true,true]:=fun _ _ _ _=>by kernel_rfl
theorem qu9:nG [true,true]:=fun _ _ _ _=>by kernel_rfl
theorem qva:iG [true,true]:=fun _ _ _ _=>by kernel_rfl
theorem qvb:oG [false,true]:=fun _ _ _ _=>by kernel_rfl
theorem qvc:nG [false,true]:=fun _ _ _ _=>by kernel_rfl
theorem qvd:iG [false,true]:=fun _ _ _ _=>by kernel_rfl
end Go.Proofs.Ytokcdoklcbgigaa.Ev

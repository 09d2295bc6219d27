/- Graphs of functions built of pieces: what the code tells of some of them, by runs. -/
import Derived.Test.YtokcdoklcbgigaaGb
namespace Go.Proofs.Ytokcdoklcbgigaa.Ev
open Go Go.RowKit Go.Proofs.Ytokcdoklcbgigaa.Ms
set_option maxRecDepth 100000
theorem qlc:oG [true,true,true,false,true]:=fun _ _ _ _=>by kernel_rfl
theorem qld:nG [true,true,true,false,true]:=fun _ _ _ _=>by kernel_rfl
theorem qle:iG [true,true,true,false,true]:=fun _ _ _ _=>by kernel_rfl
theorem qlf:oG [true,true,false,false,true]:=fun _ _ _ _=>by kernel_rfl
theorem qlg:nG [true,true,false,false,true]:=fun _ _ _ _=>by kernel_rfl
theorem qlh:iG [true,true,false,false,true]:=fun _ _ _ _=>by kernel_rfl
theorem qli:oG [false,true,false,true,false]:=fun _ _ _ _=>by kernel_rfl
theorem qlj:nG [false,true,false,true,false]:=fun _ _ _ _=>by kernel_rfl
theorem qlk:iG [false,true,false,true,false]:=fun _ _ _ _=>by kernel_rfl
theorem qp0:oG [true,true,false,true]:=fun _ _ _ _=>by kernel_rfl
theorem qp1:nG [true,true,false,true]:=fun _ _ _ _=>by kernel_rfl
theorem qp2:iG [true,true,false,true]:=fun _ _ _ _=>by kernel_rfl
theorem qp3:oG [false,false,true,true]:=fun _ _ _ _=>by kernel_rfl
theorem qp4:nG [false,false,true,true]:=fun _ _ _ _=>by kernel_rfl
theorem qp5:iG [false,false,true,true]:=fun _ _ _ _=>by kernel_rfl
theorem qs3:oG [true,true,true]:=fun _ _ _ _=>by kernel_rfl
theorem qs4:nG [true,true,true]:=fun _ _ _ _=>by kernel_rfl
theorem qs5:iG [true,true,true]:=fun _ _ _ _=>by kernel_rfl
theorem qs6:oG [true,false,false]:=fun _ _ _ _=>by kernel_rfl
theorem qs7:nG [true,false,false]:=fun _ _ _ _=>by kernel_rfl
theorem qs8:iG [true,false,false]:=fun _ _ _ _=>by kernel_rfl
theorem o_f:oG [false]:=fun _ _ _ _=>by kernel_rfl
theorem n_f:nG [false]:=fun _ _ _ _=>by kernel_rfl
theorem i_f:iG [false]:=fun _ _ _ _=>by kernel_rfl
theorem o_:oG []:=fun _ _ _ _=>by kernel_rfl
theorem n_:nG []:=fun _ _ _ _=>by kernel_rfl
theorem i_:iG []:=fun _ _ _ _=>by kernel_rfl
theorem qll:oG [true,true,true,true,false]:=fun _ _ _ _=>by kernel_rfl
theorem qlm:nG [true,true,true,true,false]:=fun _ _ _ _=>by kernel_rfl
theorem qln:iG [true,true,true,true,false]:=fun _ _ _ _=>by kernel_rfl
theorem qlo:oG [true,true,false,true,false]:=fun _ _ _ _=>by kernel_rfl
theorem qlp:nG [true,true,false,true,false]:=fun _ _ _ _=>by kernel_rfl
theorem qlq:iG [true,true,false,true,false]:=fun _ _ _ _=>by kernel_rfl
theorem qlr:oG [false,true,true,false,false]:=fun _ _ _ _=>by kernel_rfl
theorem qls:nG [false,true,true,false,false]:=fun _ _ _ _=>by kernel_rfl
theorem qlt:iG [false,true,true,false,false]:=fun _ _ _ _=>by kernel_rfl
theorem qp6:oG [true,true,true,false]:=fun _ _ _ _=>by kernel_rfl
theorem qp7:nG [true,true,true,false]:=fun _ _ _ _=>by kernel_rfl
theorem qp8:iG [true,true,true,false]:=fun _ _ _ _=>by kernel_rfl
theorem qp9:oG [false,true,false,true]:=fun _ _ _ _=>by kernel_rfl
theorem qqa:nG [false,true,false,true]:=fun _ _ _ _=>by kernel_rfl
theorem qqb:iG [false,true,false,true]:=fun _ _ _ _=>by kernel_rfl
theorem qqc:oG [false,false,false,true]:=fun _ _ _ _=>by kernel_rfl
theorem qqd:nG [false,false,false,true]:=fun _ _ _ _=>by kernel_rfl
theorem qqe:iG [false,false,false,true]:=fun _ _ _ _=>by kernel_rfl
theorem qs9:oG [true,false,true]:=fun _ _ _ _=>by kernel_rfl
theorem qta:nG [true,false,true]:=fun _ _ _ _=>by kernel_rfl
theorem qtb:iG [true,false,true]:=fun _ _ _ _=>by kernel_rfl
end Go.Proofs.Ytokcdoklcbgigaa.Ev

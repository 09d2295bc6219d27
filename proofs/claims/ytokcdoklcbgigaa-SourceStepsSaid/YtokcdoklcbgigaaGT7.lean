/- Graphs of functions built of pieces: what the code tells of some of them, by runs. -/
import Derived.Test.YtokcdoklcbgigaaGb
namespace Go.Proofs.Ytokcdoklcbgigaa.Ev
open Go Go.RowKit Go.Proofs.Ytokcdoklcbgigaa.Ms
set_option maxRecDepth 100000
theorem qlu:oG [false,false,true,true,true]:=fun _ _ _ _=>by kernel_rfl
theorem qlv:nG [false,false,true,true,true]:=fun _ _ _ _=>by kernel_rfl
theorem qlw:iG [false,false,true,true,true]:=fun _ _ _ _=>by kernel_rfl
theorem qlx:oG [false,true,true,false,true]:=fun _ _ _ _=>by kernel_rfl
theorem qly:nG [false,true,true,false,true]:=fun _ _ _ _=>by kernel_rfl
theorem qlz:iG [false,true,true,false,true]:=fun _ _ _ _=>by kernel_rfl
theorem qqf:oG [true,true,true,true]:=fun _ _ _ _=>by kernel_rfl
theorem qqg:nG [true,true,true,true]:=fun _ _ _ _=>by kernel_rfl
theorem qqh:iG [true,true,true,true]:=fun _ _ _ _=>by kernel_rfl
theorem ql0:oG [true,false,true,false,false]:=fun _ _ _ _=>by kernel_rfl
theorem ql1:nG [true,false,true,false,false]:=fun _ _ _ _=>by kernel_rfl
theorem ql2:iG [true,false,true,false,false]:=fun _ _ _ _=>by kernel_rfl
theorem ql3:oG [false,false,true,false,false]:=fun _ _ _ _=>by kernel_rfl
theorem ql4:nG [false,false,true,false,false]:=fun _ _ _ _=>by kernel_rfl
theorem ql5:iG [false,false,true,false,false]:=fun _ _ _ _=>by kernel_rfl
theorem qqi:oG [true,true,false,false]:=fun _ _ _ _=>by kernel_rfl
theorem qqj:nG [true,true,false,false]:=fun _ _ _ _=>by kernel_rfl
theorem qqk:iG [true,true,false,false]:=fun _ _ _ _=>by kernel_rfl
theorem qql:oG [false,false,false,false]:=fun _ _ _ _=>by kernel_rfl
theorem qqm:nG [false,false,false,false]:=fun _ _ _ _=>by kernel_rfl
theorem qqn:iG [false,false,false,false]:=fun _ _ _ _=>by kernel_rfl
theorem qve:oG [false,false]:=fun _ _ _ _=>by kernel_rfl
theorem qvf:nG [false,false]:=fun _ _ _ _=>by kernel_rfl
theorem qvg:iG [false,false]:=fun _ _ _ _=>by kernel_rfl
theorem ql6:oG [false,true,false,true,true]:=fun _ _ _ _=>by kernel_rfl
theorem ql7:nG [false,true,false,true,true]:=fun _ _ _ _=>by kernel_rfl
theorem ql8:iG [false,true,false,true,true]:=fun _ _ _ _=>by kernel_rfl
theorem ql9:oG [false,true,true,true,false]:=fun _ _ _ _=>by kernel_rfl
theorem qma:nG [false,true,true,true,false]:=fun _ _ _ _=>by kernel_rfl
theorem qmb:iG [false,true,true,true,false]:=fun _ _ _ _=>by kernel_rfl
theorem qmc:oG [false,false,false,true,true]:=fun _ _ _ _=>by kernel_rfl
theorem qmd:nG [false,false,false,true,true]:=fun _ _ _ _=>by kernel_rfl
theorem qme:iG [false,false,false,true,true]:=fun _ _ _ _=>by kernel_rfl
theorem qmf:oG [true,false,false,true,false]:=fun _ _ _ _=>by kernel_rfl
theorem qmg:nG [true,false,false,true,false]:=fun _ _ _ _=>by kernel_rfl
theorem qmh:iG [true,false,false,true,false]:=fun _ _ _ _=>by kernel_rfl
theorem qmi:oG [false,false,false,true,false]:=fun _ _ _ _=>by kernel_rfl
theorem qmj:nG [false,false,false,true,false]:=fun _ _ _ _=>by kernel_rfl
theorem qmk:iG [false,false,false,true,false]:=fun _ _ _ _=>by kernel_rfl
theorem qqo:oG [true,false,true,false]:=fun _ _ _ _=>by kernel_rfl
theorem qqp:nG [true,false,true,false]:=fun _ _ _ _=>by kernel_rfl
theorem qqq:iG [true,false,true,false]:=fun _ _ _ _=>by kernel_rfl
theorem qtc:oG [false,false,true]:=fun _ _ _ _=>by kernel_rfl
theorem qtd:nG [false,false,true]:=fun _ _ _ _=>by kernel_rfl
theorem qte:iG [false,false,true]:=fun _ _ _ _=>by kernel_rfl
theorem qtf:oG [false,false,false]:=fun _ _ _ _=>by kernel_rfl
theorem qtg:nG [false,false,false]:=fun _ _ _ _=>by kernel_rfl
theorem qth:iG [false,false,false]:=fun _ _ _ _=>by kernel_rfl
end Go.Proofs.Ytokcdoklcbgigaa.Ev

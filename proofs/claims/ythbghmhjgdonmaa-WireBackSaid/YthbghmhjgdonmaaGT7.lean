/- Graphs of functions built of pieces: what the code tells of some of them, by runs. -/
import Derived.Test.YthbghmhjgdonmaaGb
namespace Go.Proofs.Ythbghmhjgdonmaa.Ev
open Go Go.RowKit Go.Proofs.Ythbghmhjgdonmaa.Ms
set_option maxRecDepth 100000
theorem qle:oG [false,false,true,true,true]:=fun _ _ _ _=>by kernel_rfl
theorem qlf:nG [false,false,true,true,true]:=fun _ _ _ _=>by kernel_rfl
theorem qlg:iG [false,false,true,true,true]:=fun _ _ _ _=>by kernel_rfl
theorem qlh:oG [false,true,true,false,true]:=fun _ _ _ _=>by kernel_rfl
theorem qli:nG [false,true,true,false,true]:=fun _ _ _ _=>by kernel_rfl
theorem qlj:iG [false,true,true,false,true]:=fun _ _ _ _=>by kernel_rfl
theorem qp5:oG [true,true,true,true]:=fun _ _ _ _=>by kernel_rfl
theorem qp6:nG [true,true,true,true]:=fun _ _ _ _=>by kernel_rfl
theorem qp7:iG [true,true,true,true]:=fun _ _ _ _=>by kernel_rfl
theorem qlk:oG [true,false,true,false,false]:=fun _ _ _ _=>by kernel_rfl
theorem qll:nG [true,false,true,false,false]:=fun _ _ _ _=>by kernel_rfl
theorem qlm:iG [true,false,true,false,false]:=fun _ _ _ _=>by kernel_rfl
theorem qln:oG [false,false,true,false,false]:=fun _ _ _ _=>by kernel_rfl
theorem qlo:nG [false,false,true,false,false]:=fun _ _ _ _=>by kernel_rfl
theorem qlp:iG [false,false,true,false,false]:=fun _ _ _ _=>by kernel_rfl
theorem qp8:oG [true,true,false,false]:=fun _ _ _ _=>by kernel_rfl
theorem qp9:nG [true,true,false,false]:=fun _ _ _ _=>by kernel_rfl
theorem qqa:iG [true,true,false,false]:=fun _ _ _ _=>by kernel_rfl
theorem qqb:oG [false,false,false,false]:=fun _ _ _ _=>by kernel_rfl
theorem qqc:nG [false,false,false,false]:=fun _ _ _ _=>by kernel_rfl
theorem qqd:iG [false,false,false,false]:=fun _ _ _ _=>by kernel_rfl
theorem qv3:oG [false,false]:=fun _ _ _ _=>by kernel_rfl
theorem qv4:nG [false,false]:=fun _ _ _ _=>by kernel_rfl
theorem qv5:iG [false,false]:=fun _ _ _ _=>by kernel_rfl
theorem qlq:oG [false,true,false,true,true]:=fun _ _ _ _=>by kernel_rfl
theorem qlr:nG [false,true,false,true,true]:=fun _ _ _ _=>by kernel_rfl
theorem qls:iG [false,true,false,true,true]:=fun _ _ _ _=>by kernel_rfl
theorem qlt:oG [false,true,true,true,false]:=fun _ _ _ _=>by kernel_rfl
theorem qlu:nG [false,true,true,true,false]:=fun _ _ _ _=>by kernel_rfl
theorem qlv:iG [false,true,true,true,false]:=fun _ _ _ _=>by kernel_rfl
theorem qlw:oG [false,false,false,true,true]:=fun _ _ _ _=>by kernel_rfl
theorem qlx:nG [false,false,false,true,true]:=fun _ _ _ _=>by kernel_rfl
theorem qly:iG [false,false,false,true,true]:=fun _ _ _ _=>by kernel_rfl
theorem qlz:oG [true,false,false,true,false]:=fun _ _ _ _=>by kernel_rfl
theorem ql0:nG [true,false,false,true,false]:=fun _ _ _ _=>by kernel_rfl
theorem ql1:iG [true,false,false,true,false]:=fun _ _ _ _=>by kernel_rfl
theorem ql2:oG [false,false,false,true,false]:=fun _ _ _ _=>by kernel_rfl
theorem ql3:nG [false,false,false,true,false]:=fun _ _ _ _=>by kernel_rfl
theorem ql4:iG [false,false,false,true,false]:=fun _ _ _ _=>by kernel_rfl
theorem qqe:oG [true,false,true,false]:=fun _ _ _ _=>by kernel_rfl
theorem qqf:nG [true,false,true,false]:=fun _ _ _ _=>by kernel_rfl
theorem qqg:iG [true,false,true,false]:=fun _ _ _ _=>by kernel_rfl
theorem qtt:oG [false,false,true]:=fun _ _ _ _=>by kernel_rfl
theorem qtu:nG [false,false,true]:=fun _ _ _ _=>by kernel_rfl
theorem qtv:iG [false,false,true]:=fun _ _ _ _=>by kernel_rfl
theorem qtw:oG [false,false,false]:=fun _ _ _ _=>by kernel_rfl
theorem qtx:nG [false,false,false]:=fun _ _ _ _=>by kernel_rfl
theorem qty:iG [false,false,false]:=fun _ _ _ _=>by kernel_rfl
end Go.Proofs.Ythbghmhjgdonmaa.Ev

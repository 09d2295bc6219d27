/- Graphs of functions built of pieces: what the code tells of some of them, by runs. -/
import Derived.Test.YtdbklpgagdbpiaaDoorGb
namespace Go.Proofs.YtdbklpgagdbpiaaDoor.Ev
open Go Go.RowKit Go.Proofs.YtdbklpgagdbpiaaDoor.Ms
set_option maxRecDepth 100000
theorem qmz:oG [false,false,true,true,true]:=fun _ _ _ _=>by kernel_rfl
theorem qm0:nG [false,false,true,true,true]:=fun _ _ _ _=>by kernel_rfl
theorem qm1:iG [false,false,true,true,true]:=fun _ _ _ _=>by kernel_rfl
theorem qm2:oG [false,true,true,false,true]:=fun _ _ _ _=>by kernel_rfl
theorem qm3:nG [false,true,true,false,true]:=fun _ _ _ _=>by kernel_rfl
theorem qm4:iG [false,true,true,false,true]:=fun _ _ _ _=>by kernel_rfl
theorem qru:oG [true,true,true,true]:=fun _ _ _ _=>by kernel_rfl
theorem qrv:nG [true,true,true,true]:=fun _ _ _ _=>by kernel_rfl
theorem qrw:iG [true,true,true,true]:=fun _ _ _ _=>by kernel_rfl
theorem qm5:oG [true,false,true,false,false]:=fun _ _ _ _=>by kernel_rfl
theorem qm6:nG [true,false,true,false,false]:=fun _ _ _ _=>by kernel_rfl
theorem qm7:iG [true,false,true,false,false]:=fun _ _ _ _=>by kernel_rfl
theorem qm8:oG [false,false,true,false,false]:=fun _ _ _ _=>by kernel_rfl
theorem qm9:nG [false,false,true,false,false]:=fun _ _ _ _=>by kernel_rfl
theorem qna:iG [false,false,true,false,false]:=fun _ _ _ _=>by kernel_rfl
theorem qrx:oG [true,true,false,false]:=fun _ _ _ _=>by kernel_rfl
theorem qry:nG [true,true,false,false]:=fun _ _ _ _=>by kernel_rfl
theorem qrz:iG [true,true,false,false]:=fun _ _ _ _=>by kernel_rfl
theorem qr0:oG [false,false,false,false]:=fun _ _ _ _=>by kernel_rfl
theorem qr1:nG [false,false,false,false]:=fun _ _ _ _=>by kernel_rfl
theorem qr2:iG [false,false,false,false]:=fun _ _ _ _=>by kernel_rfl
theorem qxn:oG [false,false]:=fun _ _ _ _=>by kernel_rfl
theorem qxo:nG [false,false]:=fun _ _ _ _=>by kernel_rfl
theorem qxp:iG [false,false]:=fun _ _ _ _=>by kernel_rfl
theorem qnb:oG [false,true,false,true,true]:=fun _ _ _ _=>by kernel_rfl
theorem qnc:nG [false,true,false,true,true]:=fun _ _ _ _=>by kernel_rfl
theorem qnd:iG [false,true,false,true,true]:=fun _ _ _ _=>by kernel_rfl
theorem qne:oG [false,true,true,true,false]:=fun _ _ _ _=>by kernel_rfl
theorem qnf:nG [false,true,true,true,false]:=fun _ _ _ _=>by kernel_rfl
theorem qng:iG [false,true,true,true,false]:=fun _ _ _ _=>by kernel_rfl
theorem qnh:oG [false,false,false,true,true]:=fun _ _ _ _=>by kernel_rfl
theorem qni:nG [false,false,false,true,true]:=fun _ _ _ _=>by kernel_rfl
theorem qnj:iG [false,false,false,true,true]:=fun _ _ _ _=>by kernel_rfl
theorem qnk:oG [true,false,false,true,false]:=fun _ _ _ _=>by kernel_rfl
theorem qnl:nG [true,false,false,true,false]:=fun _ _ _ _=>by kernel_rfl
theorem qnm:iG [true,false,false,true,false]:=fun _ _ _ _=>by kernel_rfl
theorem qnn:oG [false,false,false,true,false]:=fun _ _ _ _=>by kernel_rfl
theorem qno:nG [false,false,false,true,false]:=fun _ _ _ _=>by kernel_rfl
theorem qnp:iG [false,false,false,true,false]:=fun _ _ _ _=>by kernel_rfl
theorem qr3:oG [true,false,true,false]:=fun _ _ _ _=>by kernel_rfl
theorem qr4:nG [true,false,true,false]:=fun _ _ _ _=>by kernel_rfl
theorem qr5:iG [true,false,true,false]:=fun _ _ _ _=>by kernel_rfl
theorem qu9:oG [false,false,true]:=fun _ _ _ _=>by kernel_rfl
theorem qva:nG [false,false,true]:=fun _ _ _ _=>by kernel_rfl
theorem qvb:iG [false,false,true]:=fun _ _ _ _=>by kernel_rfl
theorem qvc:oG [false,false,false]:=fun _ _ _ _=>by kernel_rfl
theorem qvd:nG [false,false,false]:=fun _ _ _ _=>by kernel_rfl
theorem qve:iG [false,false,false]:=fun _ _ _ _=>by kernel_rfl
end Go.Proofs.YtdbklpgagdbpiaaDoor.Ev
